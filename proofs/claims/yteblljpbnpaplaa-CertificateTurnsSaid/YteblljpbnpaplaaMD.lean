/- The functions of a package in the lifted layer's own small language; The functions of a package in the lifted layer's own small language; The functions of a package in the lifted layer's own small language; The functions of a package in the lifted layer's own small language; The functions of a package in the lifted layer's own small language; The functions of a package in the lifted layer's own small language; The functions of a package in the lifted layer's own small language; The functions of a package in the lifted layer's own small language; The functions of a package in the lifted layer's own small language; The functions of a package in the lifted layer's own small language; The functions of a package in the lifted layer's own small language; The functions of a package in the lifted layer's own small language; The functions of a package in the lifted layer's own small language; The functions of a package in the lifted layer's own small language; All functions of the seat. Conditions: none. -/
import Derived.Test.YteblljpbnpaplaaMC
import Derived.KernelRfl
namespace Go.Proofs.Yteblljpbnpaplaa
def lb59_0 : LC :=
  (.seq (.reg [⟨(some 9), none, .p (.bin .lss (.tmp 8) (.tmp 7))⟩])
  (.seq (.cond (.tmp 9) .skip (.exit 0))
  (.seq (.block 1
  (.seq (.reg [⟨(some 10), none, .p (.iad 1 (.tmp 6) (.tmp 8))⟩, ⟨(some 11), none, .p (.ld none (.tmp 10))⟩, ⟨(some 5), none, .p (.mov (.tmp 11))⟩])
  (.seq (.reg [⟨(some 12), none, .p (.mov (.tmp 5))⟩, ⟨(some 13), none, .p (.mov (.tmp 3))⟩, ⟨(some 14), none, .p (.bin .neq (.tmp 12) (.tmp 13))⟩])
  (.cond (.tmp 14) (.seq (.reg [⟨(some 15), none, .p (.mov (.tmp 5))⟩, ⟨(some 2), none, .p (.mov (.tmp 15))⟩])
  .ret) .skip))))
  (.reg [⟨(some 16), none, .p (.bin .add (.tmp 8) (.const (.int .i64 1)))⟩, ⟨(some 8), none, .p (.mov (.tmp 16))⟩]))))
def cf59 : LC :=
  (.seq (.reg [⟨(some 2), none, .p (.mov (.const (.int .i64 0)))⟩])
  (.seq (.reg [⟨(some 3), none, .p (.mov (.const (.int .i64 0)))⟩])
  (.seq (.seq (.reg [⟨(some 6), none, .p (.mov (.tmp 0))⟩, ⟨(some 7), none, .p (.len 1 (.tmp 6))⟩, ⟨(some 8), none, .p (.mov (.const (.int .i64 0)))⟩])
  (.block 0
  (.loop lb59_0)))
  (.seq (.reg [⟨(some 17), none, .p (.mov (.tmp 3))⟩, ⟨(some 2), none, .p (.mov (.tmp 17))⟩])
  .ret))))
def rf59 : List RX := [.tmp 2]
set_option maxRecDepth 100000 in
theorem comp59 : cFn Try.prog Try.f59 = some (erase cf59, rf59) := by kernel_rfl
def cf60 : LC :=
  (.seq (.reg [⟨(some 4), none, .p (.mov (.const (.int .i64 0)))⟩])
  (.seq (.reg [⟨(some 7), none, .p (.mov (.tmp 0))⟩, ⟨(some 8), none, .e (.call 70 [(.tmp 7)])⟩, ⟨(some 5), none, .p (.mov (.tmp 8))⟩])
  (.seq (.reg [⟨(some 9), none, .p (.mov (.tmp 1))⟩, ⟨(some 10), none, .e (.call 70 [(.tmp 9)])⟩, ⟨(some 6), none, .p (.mov (.tmp 10))⟩])
  (.seq (.seq (.reg [⟨(some 11), none, .p (.mov (.tmp 5))⟩])
  (.cond (.tmp 11) (.seq (.seq (.reg [⟨(some 12), none, .p (.mov (.tmp 6))⟩])
  (.cond (.tmp 12) (.seq (.reg [⟨(some 4), none, .p (.mov (.const (.int .i64 0)))⟩])
  .ret) .skip))
  (.seq (.reg [⟨(some 4), none, .p (.mov (.const (.int .i64 (-1))))⟩])
  .ret)) .skip))
  (.seq (.seq (.reg [⟨(some 13), none, .p (.mov (.tmp 6))⟩])
  (.cond (.tmp 13) (.seq (.reg [⟨(some 4), none, .p (.mov (.const (.int .i64 1)))⟩])
  .ret) .skip))
  (.seq (.seq (.reg [⟨(some 14), none, .p (.mov (.tmp 0))⟩, ⟨(some 15), none, .p (.mov (.tmp 1))⟩, ⟨(some 16), none, .p (.bin .lss (.tmp 14) (.tmp 15))⟩])
  (.cond (.tmp 16) (.seq (.reg [⟨(some 4), none, .p (.mov (.const (.int .i64 (-1))))⟩])
  .ret) .skip))
  (.seq (.seq (.reg [⟨(some 17), none, .p (.mov (.tmp 0))⟩, ⟨(some 18), none, .p (.mov (.tmp 1))⟩, ⟨(some 19), none, .p (.bin .gtr (.tmp 17) (.tmp 18))⟩])
  (.cond (.tmp 19) (.seq (.reg [⟨(some 4), none, .p (.mov (.const (.int .i64 1)))⟩])
  .ret) .skip))
  (.seq (.reg [⟨(some 4), none, .p (.mov (.const (.int .i64 0)))⟩])
  .ret))))))))
def rf60 : List RX := [.tmp 4]
set_option maxRecDepth 100000 in
theorem comp60 : cFn Try.prog Try.f60 = some (erase cf60, rf60) := by kernel_rfl
def cf70 : LC :=
  (.seq (.reg [⟨(some 2), none, .p (.mov (.const (.bool false)))⟩])
  (.seq (.reg [⟨(some 3), none, .p (.mov (.tmp 0))⟩, ⟨(some 4), none, .p (.mov (.tmp 0))⟩, ⟨(some 5), none, .p (.bin .neq (.tmp 3) (.tmp 4))⟩, ⟨(some 2), none, .p (.mov (.tmp 5))⟩])
  .ret))
def rf70 : List RX := [.tmp 2]
set_option maxRecDepth 100000 in
theorem comp70 : cFn Try.prog Try.f70 = some (erase cf70, rf70) := by kernel_rfl
end Go.Proofs.Yteblljpbnpaplaa
namespace Go.Proofs.Yteblljpbnpaplaa
def lb12_0 : LC :=
  (.seq (.reg [⟨(some 13), none, .p (.bin .lss (.tmp 12) (.tmp 11))⟩])
  (.seq (.cond (.tmp 13) .skip (.exit 0))
  (.seq (.block 1
  (.seq (.reg [⟨(some 14), none, .p (.iad 3 (.tmp 10) (.tmp 12))⟩, ⟨(some 15), none, .p (.ld (some 3) (.tmp 14))⟩, ⟨(some 8), none, .e (.alc [(.int .i64 0), (.int .i64 0), (.int .i64 0)])⟩, ⟨none, none, .e (.st 3 (.tmp 8) (.tmp 15))⟩])
  (.seq (.dreg [⟨(some 16), none, .p (.mov (.tmp 5))⟩, ⟨(some 17), none, .p (.fad 0 (.tmp 8))⟩, ⟨(some 18), none, .p (.ld none (.tmp 17))⟩, ⟨(some 19), none, .e (.calv (.tmp 16) [(.tmp 18)])⟩, ⟨(some 20), none, .p (.un .not (.tmp 19))⟩, ⟨(some 21), none, .p (.mov (.tmp 20))⟩, ⟨(some 22), (some (21, false)), .p (.mov (.tmp 5))⟩, ⟨(some 23), (some (21, false)), .p (.fad 1 (.tmp 8))⟩, ⟨(some 24), (some (21, false)), .p (.ld none (.tmp 23))⟩, ⟨(some 25), (some (21, false)), .e (.calv (.tmp 22) [(.tmp 24)])⟩, ⟨(some 26), (some (21, false)), .p (.un .not (.tmp 25))⟩, ⟨(some 27), none, .p (.pick (.tmp 21) (.const (.bool true)) (.tmp 26))⟩, ⟨(some 28), none, .p (.mov (.tmp 27))⟩, ⟨(some 29), (some (28, false)), .p (.ld none (.tmp 3))⟩, ⟨(some 30), (some (28, false)), .p (.fad 0 (.tmp 8))⟩, ⟨(some 31), (some (28, false)), .p (.ld none (.tmp 30))⟩, ⟨(some 32), (some (28, false)), .p (.iad 1 (.tmp 29) (.tmp 31))⟩, ⟨(some 33), (some (28, false)), .p (.ld none (.tmp 32))⟩, ⟨(some 34), (some (28, false)), .p (.ld none (.tmp 3))⟩, ⟨(some 35), (some (28, false)), .p (.fad 1 (.tmp 8))⟩, ⟨(some 36), (some (28, false)), .p (.ld none (.tmp 35))⟩, ⟨(some 37), (some (28, false)), .p (.iad 1 (.tmp 34) (.tmp 36))⟩, ⟨(some 38), (some (28, false)), .p (.ld none (.tmp 37))⟩, ⟨(some 39), (some (28, false)), .p (.bin .geq (.tmp 33) (.tmp 38))⟩] [[⟨(some 40), none, .p (.pick (.tmp 28) (.const (.bool true)) (.tmp 39))⟩]])
  (.cond (.tmp 40) (.reg [⟨(some 41), none, .p (.mov (.tmp 6))⟩, ⟨(some 42), none, .p (.ld (some 3) (.tmp 8))⟩, ⟨(some 43), none, .e (.bsl 0 1 3 [(.int .i64 0), (.int .i64 0), (.int .i64 0)] [(0, 3, (.tmp 42))])⟩, ⟨(some 44), none, .e (.app 0 3 24 (.tmp 41) (.tmp 43))⟩, ⟨(some 6), none, .p (.mov (.tmp 44))⟩]) .skip))))
  (.reg [⟨(some 45), none, .p (.bin .add (.tmp 12) (.const (.int .i64 1)))⟩, ⟨(some 12), none, .p (.mov (.tmp 45))⟩]))))
def cf12 : LC :=
  (.seq (.reg [⟨(some 3), none, .e (.box (.tmp 1))⟩, ⟨(some 4), none, .p (.mov (.const (.slice none 0 0)))⟩])
  (.seq (.reg [⟨(some 9), none, .p (.mkf 30 [(.tmp 3)])⟩, ⟨(some 5), none, .p (.mov (.tmp 9))⟩])
  (.seq (.reg [⟨(some 6), none, .p (.mov (.const (.slice none 0 0)))⟩])
  (.seq (.seq (.reg [⟨(some 10), none, .p (.mov (.tmp 0))⟩, ⟨(some 11), none, .p (.len 1 (.tmp 10))⟩, ⟨(some 12), none, .p (.mov (.const (.int .i64 0)))⟩])
  (.block 0
  (.loop lb12_0)))
  (.seq (.reg [⟨(some 46), none, .p (.mov (.tmp 6))⟩, ⟨(some 4), none, .p (.mov (.tmp 46))⟩])
  .ret)))))
def rf12 : List RX := [.tmp 4]
set_option maxRecDepth 100000 in
theorem comp12 : cFn Try.prog Try.f12 = some (erase cf12, rf12) := by kernel_rfl
def lb14_0 : LC :=
  (.seq (.reg [⟨(some 128), none, .p (.bin .lss (.tmp 127) (.tmp 126))⟩])
  (.seq (.cond (.tmp 128) .skip (.exit 8))
  (.seq (.block 9
  (.seq (.reg [⟨(some 129), none, .p (.iad 1 (.tmp 125) (.tmp 127))⟩, ⟨(some 130), none, .p (.ld none (.tmp 129))⟩, ⟨(some 22), none, .p (.mov (.tmp 130))⟩])
  (.seq (.dreg [⟨(some 131), none, .p (.mov (.tmp 15))⟩, ⟨(some 132), none, .p (.mov (.tmp 22))⟩, ⟨(some 133), none, .p (.mov (.tmp 15))⟩, ⟨(some 134), none, .p (.mov (.tmp 22))⟩, ⟨(some 135), none, .p (.iad 1 (.tmp 133) (.tmp 134))⟩, ⟨(some 136), none, .p (.ld none (.tmp 135))⟩, ⟨(some 137), none, .p (.mov (.tmp 15))⟩, ⟨(some 138), none, .p (.mov (.tmp 20))⟩, ⟨(some 139), none, .p (.iad 1 (.tmp 137) (.tmp 138))⟩, ⟨(some 140), none, .p (.ld none (.tmp 139))⟩, ⟨(some 141), none, .p (.bin .add (.tmp 140) (.const (.int .i64 1)))⟩, ⟨(some 142), none, .p (.mx false (.tmp 136) (.tmp 141))⟩, ⟨(some 143), none, .p (.iad 1 (.tmp 131) (.tmp 132))⟩] [[⟨none, none, .e (.st 1 (.tmp 143) (.tmp 142))⟩]])
  (.seq (.reg [⟨(some 144), none, .p (.mov (.tmp 12))⟩, ⟨(some 145), none, .p (.mov (.tmp 22))⟩, ⟨(some 146), none, .p (.iad 1 (.tmp 144) (.tmp 145))⟩, ⟨(some 147), none, .p (.ld none (.tmp 146))⟩, ⟨(some 148), none, .p (.bin .sub (.tmp 147) (.const (.int .i64 1)))⟩, ⟨(some 149), none, .p (.iad 1 (.tmp 144) (.tmp 145))⟩, ⟨none, none, .e (.st 1 (.tmp 149) (.tmp 148))⟩])
  (.seq (.reg [⟨(some 150), none, .p (.mov (.tmp 12))⟩, ⟨(some 151), none, .p (.mov (.tmp 22))⟩, ⟨(some 152), none, .p (.iad 1 (.tmp 150) (.tmp 151))⟩, ⟨(some 153), none, .p (.ld none (.tmp 152))⟩, ⟨(some 154), none, .p (.bin .eql (.tmp 153) (.const (.int .i64 0)))⟩])
  (.cond (.tmp 154) (.reg [⟨(some 155), none, .p (.mov (.tmp 16))⟩, ⟨(some 156), none, .p (.mov (.tmp 22))⟩, ⟨(some 157), none, .e (.bsl 1 1 1 [(.int .i64 0)] [(0, 1, (.tmp 156))])⟩, ⟨(some 158), none, .e (.app 1 1 8 (.tmp 155) (.tmp 157))⟩, ⟨(some 16), none, .p (.mov (.tmp 158))⟩]) .skip))))))
  (.reg [⟨(some 159), none, .p (.bin .add (.tmp 127) (.const (.int .i64 1)))⟩, ⟨(some 127), none, .p (.mov (.tmp 159))⟩]))))
def lb14_1 : LC :=
  (.seq (.seq (.reg [⟨(some 112), none, .p (.mov (.tmp 19))⟩, ⟨(some 113), none, .p (.mov (.tmp 16))⟩, ⟨(some 114), none, .p (.len 1 (.tmp 113))⟩, ⟨(some 115), none, .p (.bin .lss (.tmp 112) (.tmp 114))⟩])
  (.cond (.tmp 115) .skip (.exit 6)))
  (.seq (.block 7
  (.seq (.reg [⟨(some 118), none, .p (.mov (.tmp 16))⟩, ⟨(some 119), none, .p (.mov (.tmp 19))⟩, ⟨(some 120), none, .p (.iad 1 (.tmp 118) (.tmp 119))⟩, ⟨(some 121), none, .p (.ld none (.tmp 120))⟩, ⟨(some 20), none, .p (.mov (.tmp 121))⟩])
  (.seq (.reg [⟨(some 122), none, .p (.mov (.tmp 11))⟩, ⟨(some 123), none, .p (.mov (.tmp 20))⟩, ⟨(some 124), none, .p (.iad 1 (.tmp 122) (.tmp 123))⟩, ⟨(some 125), none, .p (.ld none (.tmp 124))⟩, ⟨(some 126), none, .p (.len 1 (.tmp 125))⟩, ⟨(some 127), none, .p (.mov (.const (.int .i64 0)))⟩])
  (.block 8
  (.loop lb14_0)))))
  (.reg [⟨(some 116), none, .p (.mov (.tmp 19))⟩, ⟨(some 117), none, .p (.bin .add (.tmp 116) (.const (.int .i64 1)))⟩, ⟨(some 19), none, .p (.mov (.tmp 117))⟩])))
def lb14_2 : LC :=
  (.seq (.reg [⟨(some 101), none, .p (.bin .lss (.tmp 100) (.tmp 99))⟩])
  (.seq (.cond (.tmp 101) .skip (.exit 4))
  (.seq (.block 5
  (.seq (.reg [⟨(some 102), none, .p (.mov (.tmp 100))⟩, ⟨(some 103), none, .p (.iad 1 (.tmp 98) (.tmp 100))⟩, ⟨(some 104), none, .p (.ld none (.tmp 103))⟩, ⟨(some 17), none, .p (.mov (.tmp 102))⟩, ⟨(some 18), none, .p (.mov (.tmp 104))⟩])
  (.seq (.reg [⟨(some 105), none, .p (.mov (.tmp 18))⟩, ⟨(some 106), none, .p (.bin .eql (.tmp 105) (.const (.int .i64 0)))⟩])
  (.cond (.tmp 106) (.reg [⟨(some 107), none, .p (.mov (.tmp 16))⟩, ⟨(some 108), none, .p (.mov (.tmp 17))⟩, ⟨(some 109), none, .e (.bsl 1 1 1 [(.int .i64 0)] [(0, 1, (.tmp 108))])⟩, ⟨(some 110), none, .e (.app 1 1 8 (.tmp 107) (.tmp 109))⟩, ⟨(some 16), none, .p (.mov (.tmp 110))⟩]) .skip))))
  (.reg [⟨(some 111), none, .p (.bin .add (.tmp 100) (.const (.int .i64 1)))⟩, ⟨(some 100), none, .p (.mov (.tmp 111))⟩]))))
def lb14_3 : LC :=
  (.seq (.reg [⟨(some 59), none, .p (.bin .lss (.tmp 58) (.tmp 57))⟩])
  (.seq (.cond (.tmp 59) .skip (.exit 2))
  (.seq (.block 3
  (.seq (.reg [⟨(some 60), none, .p (.iad 3 (.tmp 56) (.tmp 58))⟩, ⟨(some 61), none, .p (.ld (some 3) (.tmp 60))⟩, ⟨(some 14), none, .e (.alc [(.int .i64 0), (.int .i64 0), (.int .i64 0)])⟩, ⟨none, none, .e (.st 3 (.tmp 14) (.tmp 61))⟩])
  (.seqj (.dreg [⟨(some 62), none, .p (.mov (.tmp 10))⟩, ⟨(some 63), none, .p (.fad 1 (.tmp 14))⟩, ⟨(some 65), none, .p (.mov (.tmp 10))⟩, ⟨(some 66), none, .p (.fad 1 (.tmp 14))⟩, ⟨(some 67), none, .p (.ld none (.tmp 66))⟩, ⟨(some 68), none, .p (.iad 1 (.tmp 65) (.tmp 67))⟩, ⟨(some 69), none, .p (.ld none (.tmp 68))⟩, ⟨(some 70), none, .p (.fad 0 (.tmp 14))⟩, ⟨(some 71), none, .p (.ld none (.tmp 70))⟩, ⟨(some 72), none, .e (.bsr 1 1 [(.int .i64 0)] [(0, 1, (.tmp 71))])⟩] [[⟨(some 64), none, .p (.ld none (.tmp 63))⟩, ⟨(some 73), none, .e (.app 1 1 8 (.tmp 69) (.tmp 72))⟩, ⟨(some 74), none, .p (.iad 1 (.tmp 62) (.tmp 64))⟩, ⟨none, none, .e (.st 1 (.tmp 74) (.tmp 73))⟩], [⟨(some 73), none, .e (.app 1 1 8 (.tmp 69) (.tmp 72))⟩, ⟨(some 64), none, .p (.ld none (.tmp 63))⟩, ⟨(some 74), none, .p (.iad 1 (.tmp 62) (.tmp 64))⟩, ⟨none, none, .e (.st 1 (.tmp 74) (.tmp 73))⟩]])
  (.seq (.dreg [⟨(some 75), none, .p (.mov (.tmp 11))⟩, ⟨(some 76), none, .p (.fad 0 (.tmp 14))⟩, ⟨(some 78), none, .p (.mov (.tmp 11))⟩, ⟨(some 79), none, .p (.fad 0 (.tmp 14))⟩, ⟨(some 80), none, .p (.ld none (.tmp 79))⟩, ⟨(some 81), none, .p (.iad 1 (.tmp 78) (.tmp 80))⟩, ⟨(some 82), none, .p (.ld none (.tmp 81))⟩, ⟨(some 83), none, .p (.fad 1 (.tmp 14))⟩, ⟨(some 84), none, .p (.ld none (.tmp 83))⟩, ⟨(some 85), none, .e (.bsr 1 1 [(.int .i64 0)] [(0, 1, (.tmp 84))])⟩] [[⟨(some 77), none, .p (.ld none (.tmp 76))⟩, ⟨(some 86), none, .e (.app 1 1 8 (.tmp 82) (.tmp 85))⟩, ⟨(some 87), none, .p (.iad 1 (.tmp 75) (.tmp 77))⟩, ⟨none, none, .e (.st 1 (.tmp 87) (.tmp 86))⟩], [⟨(some 86), none, .e (.app 1 1 8 (.tmp 82) (.tmp 85))⟩, ⟨(some 77), none, .p (.ld none (.tmp 76))⟩, ⟨(some 87), none, .p (.iad 1 (.tmp 75) (.tmp 77))⟩, ⟨none, none, .e (.st 1 (.tmp 87) (.tmp 86))⟩]])
  (.reg [⟨(some 88), none, .p (.mov (.tmp 12))⟩, ⟨(some 89), none, .p (.fad 1 (.tmp 14))⟩, ⟨(some 90), none, .p (.ld none (.tmp 89))⟩, ⟨(some 91), none, .p (.iad 1 (.tmp 88) (.tmp 90))⟩, ⟨(some 92), none, .p (.ld none (.tmp 91))⟩, ⟨(some 93), none, .p (.bin .add (.tmp 92) (.const (.int .i64 1)))⟩, ⟨(some 94), none, .p (.iad 1 (.tmp 88) (.tmp 90))⟩, ⟨none, none, .e (.st 1 (.tmp 94) (.tmp 93))⟩])))))
  (.reg [⟨(some 95), none, .p (.bin .add (.tmp 58) (.const (.int .i64 1)))⟩, ⟨(some 58), none, .p (.mov (.tmp 95))⟩]))))
def lb14_4 : LC :=
  (.seq (.reg [⟨(some 33), none, .p (.bin .lss (.tmp 32) (.tmp 31))⟩])
  (.seq (.cond (.tmp 33) .skip (.exit 0))
  (.seq (.block 1
  (.seq (.reg [⟨(some 34), none, .p (.iad 3 (.tmp 30) (.tmp 32))⟩, ⟨(some 35), none, .p (.ld (some 3) (.tmp 34))⟩, ⟨(some 9), none, .e (.alc [(.int .i64 0), (.int .i64 0), (.int .i64 0)])⟩, ⟨none, none, .e (.st 3 (.tmp 9) (.tmp 35))⟩])
  (.seq (.reg [⟨(some 36), none, .p (.mov (.tmp 7))⟩, ⟨(some 37), none, .p (.fad 0 (.tmp 9))⟩, ⟨(some 38), none, .p (.ld none (.tmp 37))⟩, ⟨(some 39), none, .e (.calv (.tmp 36) [(.tmp 38)])⟩, ⟨(some 40), none, .p (.un .not (.tmp 39))⟩, ⟨(some 41), none, .p (.mov (.tmp 40))⟩, ⟨(some 42), (some (41, false)), .p (.mov (.tmp 7))⟩, ⟨(some 43), (some (41, false)), .p (.fad 1 (.tmp 9))⟩, ⟨(some 44), (some (41, false)), .p (.ld none (.tmp 43))⟩, ⟨(some 45), (some (41, false)), .e (.calv (.tmp 42) [(.tmp 44)])⟩, ⟨(some 46), (some (41, false)), .p (.un .not (.tmp 45))⟩, ⟨(some 47), none, .p (.pick (.tmp 41) (.const (.bool true)) (.tmp 46))⟩])
  (.cond (.tmp 47) (.seq (.reg [⟨(some 4), none, .p (.mov (.const (.slice none 0 0)))⟩, ⟨(some 5), none, .p (.mov (.const (.slice none 0 0)))⟩, ⟨(some 6), none, .p (.mov (.const (.int .i64 1)))⟩])
  .ret) .skip))))
  (.reg [⟨(some 48), none, .p (.bin .add (.tmp 32) (.const (.int .i64 1)))⟩, ⟨(some 32), none, .p (.mov (.tmp 48))⟩]))))
def cf14 : LC :=
  (.seq (.reg [⟨(some 3), none, .e (.box (.tmp 1))⟩, ⟨(some 4), none, .p (.mov (.const (.slice none 0 0)))⟩, ⟨(some 5), none, .p (.mov (.const (.slice none 0 0)))⟩, ⟨(some 6), none, .p (.mov (.const (.int .i64 0)))⟩])
  (.seq (.seq (.reg [⟨(some 23), none, .p (.ld none (.tmp 3))⟩, ⟨(some 24), none, .p (.bin .lss (.tmp 23) (.const (.int .i64 0)))⟩, ⟨(some 25), none, .p (.mov (.tmp 24))⟩, ⟨(some 26), (some (25, false)), .p (.ld none (.tmp 3))⟩, ⟨(some 27), (some (25, false)), .p (.bin .gtr (.tmp 26) (.const (.int .i64 512)))⟩, ⟨(some 28), none, .p (.pick (.tmp 25) (.const (.bool true)) (.tmp 27))⟩])
  (.cond (.tmp 28) (.seq (.reg [⟨(some 4), none, .p (.mov (.const (.slice none 0 0)))⟩, ⟨(some 5), none, .p (.mov (.const (.slice none 0 0)))⟩, ⟨(some 6), none, .p (.mov (.const (.int .i64 1)))⟩])
  .ret) .skip))
  (.seq (.reg [⟨(some 29), none, .p (.mkf 31 [(.tmp 3)])⟩, ⟨(some 7), none, .p (.mov (.tmp 29))⟩])
  (.seq (.seq (.reg [⟨(some 30), none, .p (.mov (.tmp 0))⟩, ⟨(some 31), none, .p (.len 1 (.tmp 30))⟩, ⟨(some 32), none, .p (.mov (.const (.int .i64 0)))⟩])
  (.block 0
  (.loop lb14_4)))
  (.seq (.reg [⟨(some 49), none, .p (.ld none (.tmp 3))⟩, ⟨(some 50), none, .e (.mks 0 1 [(.slice none 0 0)] 24 (.tmp 49) (.tmp 49))⟩, ⟨(some 10), none, .p (.mov (.tmp 50))⟩])
  (.seq (.reg [⟨(some 51), none, .p (.ld none (.tmp 3))⟩, ⟨(some 52), none, .e (.mks 0 1 [(.slice none 0 0)] 24 (.tmp 51) (.tmp 51))⟩, ⟨(some 11), none, .p (.mov (.tmp 52))⟩])
  (.seq (.reg [⟨(some 53), none, .p (.ld none (.tmp 3))⟩, ⟨(some 54), none, .e (.mks 1 1 [(.int .i64 0)] 8 (.tmp 53) (.tmp 53))⟩, ⟨(some 12), none, .p (.mov (.tmp 54))⟩])
  (.seq (.seq (.reg [⟨(some 55), none, .p (.mov (.tmp 0))⟩, ⟨(some 56), none, .e (.call 32 [(.tmp 55), (.const (.slice none 0 0))])⟩, ⟨(some 57), none, .p (.len 1 (.tmp 56))⟩, ⟨(some 58), none, .p (.mov (.const (.int .i64 0)))⟩])
  (.block 2
  (.loop lb14_3)))
  (.seq (.reg [⟨(some 96), none, .p (.ld none (.tmp 3))⟩, ⟨(some 97), none, .e (.mks 1 1 [(.int .i64 0)] 8 (.tmp 96) (.tmp 96))⟩, ⟨(some 15), none, .p (.mov (.tmp 97))⟩])
  (.seq (.reg [⟨(some 16), none, .p (.mov (.const (.slice none 0 0)))⟩])
  (.seq (.seq (.reg [⟨(some 98), none, .p (.mov (.tmp 12))⟩, ⟨(some 99), none, .p (.len 1 (.tmp 98))⟩, ⟨(some 100), none, .p (.mov (.const (.int .i64 0)))⟩])
  (.block 4
  (.loop lb14_2)))
  (.seq (.seq (.reg [⟨(some 19), none, .p (.mov (.const (.int .i64 0)))⟩])
  (.block 6
  (.loop lb14_1)))
  (.seq (.seq (.reg [⟨(some 160), none, .p (.mov (.tmp 16))⟩, ⟨(some 161), none, .p (.len 1 (.tmp 160))⟩, ⟨(some 162), none, .p (.ld none (.tmp 3))⟩, ⟨(some 163), none, .p (.bin .lss (.tmp 161) (.tmp 162))⟩])
  (.cond (.tmp 163) (.seq (.reg [⟨(some 164), none, .p (.mov (.tmp 10))⟩, ⟨(some 165), none, .p (.mov (.tmp 12))⟩, ⟨(some 166), none, .e (.call 33 [(.tmp 164), (.tmp 165)])⟩, ⟨(some 4), none, .p (.mov (.const (.slice none 0 0)))⟩, ⟨(some 5), none, .p (.mov (.tmp 166))⟩, ⟨(some 6), none, .p (.mov (.const (.int .i64 11)))⟩])
  .ret) .skip))
  (.seq (.reg [⟨(some 167), none, .p (.mov (.tmp 15))⟩, ⟨(some 4), none, .p (.mov (.tmp 167))⟩, ⟨(some 5), none, .p (.mov (.const (.slice none 0 0)))⟩, ⟨(some 6), none, .p (.mov (.const (.int .i64 0)))⟩])
  .ret))))))))))))))
def rf14 : List RX := [.tmp 4, .tmp 5, .tmp 6]
set_option maxRecDepth 100000 in
theorem comp14 : cFn Try.prog Try.f14 = some (erase cf14, rf14) := by kernel_rfl
def lb20_0 : LC :=
  (.seq (.reg [⟨(some 26), none, .p (.bin .lss (.tmp 25) (.tmp 24))⟩])
  (.seq (.cond (.tmp 26) .skip (.exit 0))
  (.seq (.block 1
  (.seq (.reg [⟨(some 27), none, .p (.iad 6 (.tmp 23) (.tmp 25))⟩, ⟨(some 28), none, .p (.ld (some 6) (.tmp 27))⟩, ⟨(some 11), none, .e (.alc [(.int .i64 0), (.int .i64 0), (.int .i64 0), (.int .i64 0), (.int .i64 0), (.int .i64 0)])⟩, ⟨none, none, .e (.st 6 (.tmp 11) (.tmp 28))⟩])
  (.dreg [⟨(some 29), none, .p (.mov (.tmp 9))⟩, ⟨(some 30), none, .p (.mov (.tmp 8))⟩, ⟨(some 31), none, .p (.fad 0 (.tmp 11))⟩, ⟨(some 32), none, .p (.ld none (.tmp 31))⟩, ⟨(some 33), none, .p (.fad 2 (.tmp 11))⟩, ⟨(some 34), none, .p (.ld none (.tmp 33))⟩, ⟨(some 35), none, .e (.calv (.tmp 30) [(.tmp 32), (.tmp 34)])⟩, ⟨(some 36), none, .p (.mov (.tmp 8))⟩, ⟨(some 37), none, .p (.fad 2 (.tmp 11))⟩, ⟨(some 38), none, .p (.ld none (.tmp 37))⟩, ⟨(some 39), none, .p (.fad 0 (.tmp 11))⟩, ⟨(some 40), none, .p (.ld none (.tmp 39))⟩, ⟨(some 41), none, .e (.calv (.tmp 36) [(.tmp 38), (.tmp 40)])⟩, ⟨(some 42), none, .e (.bsr 2 1 [(.int .i64 0)] [(0, 1, (.tmp 35)), (1, 1, (.tmp 41))])⟩] [[⟨(some 43), none, .e (.app 1 1 8 (.tmp 29) (.tmp 42))⟩, ⟨(some 9), none, .p (.mov (.tmp 43))⟩]])))
  (.reg [⟨(some 44), none, .p (.bin .add (.tmp 25) (.const (.int .i64 1)))⟩, ⟨(some 25), none, .p (.mov (.tmp 44))⟩]))))
def cf20 : LC :=
  (.seq (.reg [⟨(some 2), none, .e (.box (.tmp 0))⟩, ⟨(some 3), none, .e (.box (.tmp 1))⟩, ⟨(some 4), none, .p (.mov (.const (.slice none 0 0)))⟩, ⟨(some 5), none, .p (.mov (.const (.int .i64 0)))⟩])
  (.seq (.seq (.reg [⟨(some 12), none, .p (.ld (some 2) (.tmp 2))⟩, ⟨(some 13), none, .p (.ld (some 1) (.tmp 3))⟩, ⟨(some 14), none, .e (.call 36 [(.tmp 12), (.tmp 13)])⟩, ⟨(some 15), none, .p (.un .not (.tmp 14))⟩])
  (.cond (.tmp 15) (.seq (.reg [⟨(some 4), none, .p (.mov (.const (.slice none 0 0)))⟩, ⟨(some 5), none, .p (.mov (.const (.int .i64 1)))⟩])
  .ret) .skip))
  (.seq (.reg [⟨(some 16), none, .p (.fad 0 (.tmp 2))⟩, ⟨(some 17), none, .p (.ld none (.tmp 16))⟩, ⟨(some 18), none, .p (.len 1 (.tmp 17))⟩, ⟨(some 6), none, .e (.alc [(.int .i64 0)])⟩, ⟨none, none, .e (.st 1 (.tmp 6) (.tmp 18))⟩])
  (.seq (.reg [⟨(some 19), none, .p (.ld (some 1) (.tmp 3))⟩, ⟨(some 20), none, .e (.call 37 [(.tmp 19)])⟩, ⟨(some 7), none, .e (.alc [(.slice none 0 0)])⟩, ⟨none, none, .e (.st 1 (.tmp 7) (.tmp 20))⟩])
  (.seq (.reg [⟨(some 21), none, .p (.mkf 38 [(.tmp 3), (.tmp 6), (.tmp 7)])⟩, ⟨(some 8), none, .p (.mov (.tmp 21))⟩])
  (.seq (.reg [⟨(some 9), none, .p (.mov (.const (.slice none 0 0)))⟩])
  (.seq (.seq (.reg [⟨(some 22), none, .p (.fad 1 (.tmp 2))⟩, ⟨(some 23), none, .p (.ld none (.tmp 22))⟩, ⟨(some 24), none, .p (.len 1 (.tmp 23))⟩, ⟨(some 25), none, .p (.mov (.const (.int .i64 0)))⟩])
  (.block 0
  (.loop lb20_0)))
  (.seq (.reg [⟨(some 45), none, .p (.mov (.tmp 9))⟩, ⟨(some 4), none, .p (.mov (.tmp 45))⟩, ⟨(some 5), none, .p (.mov (.const (.int .i64 0)))⟩])
  .ret))))))))
def rf20 : List RX := [.tmp 4, .tmp 5]
set_option maxRecDepth 100000 in
theorem comp20 : cFn Try.prog Try.f20 = some (erase cf20, rf20) := by kernel_rfl
def cf30 : LC :=
  (.seq (.reg [⟨(some 3), none, .p (.mov (.const (.bool false)))⟩])
  (.seq (.reg [⟨(some 4), none, .p (.mov (.tmp 0))⟩, ⟨(some 5), none, .p (.bin .geq (.tmp 4) (.const (.int .i64 0)))⟩, ⟨(some 6), none, .p (.mov (.tmp 5))⟩, ⟨(some 7), (some (6, true)), .p (.mov (.tmp 0))⟩, ⟨(some 8), (some (6, true)), .p (.ld none (.tmp 1))⟩, ⟨(some 9), (some (6, true)), .p (.len 1 (.tmp 8))⟩, ⟨(some 10), (some (6, true)), .p (.bin .lss (.tmp 7) (.tmp 9))⟩, ⟨(some 11), none, .p (.pick (.tmp 6) (.tmp 10) (.const (.bool false)))⟩, ⟨(some 3), none, .p (.mov (.tmp 11))⟩])
  .ret))
def rf30 : List RX := [.tmp 3]
set_option maxRecDepth 100000 in
theorem comp30 : cFn Try.prog Try.f30 = some (erase cf30, rf30) := by kernel_rfl
def cf31 : LC :=
  (.seq (.reg [⟨(some 3), none, .p (.mov (.const (.bool false)))⟩])
  (.seq (.reg [⟨(some 4), none, .p (.mov (.tmp 0))⟩, ⟨(some 5), none, .p (.bin .geq (.tmp 4) (.const (.int .i64 0)))⟩, ⟨(some 6), none, .p (.mov (.tmp 5))⟩, ⟨(some 7), (some (6, true)), .p (.mov (.tmp 0))⟩, ⟨(some 8), (some (6, true)), .p (.ld none (.tmp 1))⟩, ⟨(some 9), (some (6, true)), .p (.bin .lss (.tmp 7) (.tmp 8))⟩, ⟨(some 10), none, .p (.pick (.tmp 6) (.tmp 9) (.const (.bool false)))⟩, ⟨(some 3), none, .p (.mov (.tmp 10))⟩])
  .ret))
def rf31 : List RX := [.tmp 3]
set_option maxRecDepth 100000 in
theorem comp31 : cFn Try.prog Try.f31 = some (erase cf31, rf31) := by kernel_rfl
def lb33_0 : LC :=
  (.seq (.seq (.reg [⟨(some 16), none, .p (.mov (.tmp 9))⟩, ⟨(some 17), none, .e (.calv (.tmp 16) [])⟩])
  (.cond (.tmp 17) .skip (.exit 0)))
  (.block 1
  .skip))
def cf33 : LC :=
  (.seq (.reg [⟨(some 2), none, .e (.box (.tmp 0))⟩, ⟨(some 3), none, .e (.box (.tmp 1))⟩, ⟨(some 4), none, .p (.mov (.const (.slice none 0 0)))⟩])
  (.seq (.reg [⟨(some 11), none, .p (.mkf 50 [(.tmp 3)])⟩, ⟨(some 5), none, .e (.alc [.nilFunc])⟩, ⟨none, none, .e (.st 1 (.tmp 5) (.tmp 11))⟩])
  (.seq (.reg [⟨(some 12), none, .p (.ld none (.tmp 3))⟩, ⟨(some 13), none, .e (.call 51 [(.tmp 12), (.func 52)])⟩, ⟨(some 6), none, .e (.alc [(.int .i64 0)])⟩, ⟨none, none, .e (.st 1 (.tmp 6) (.tmp 13))⟩])
  (.seq (.reg [⟨(some 7), none, .e (.alc [(.slice none 0 0)])⟩])
  (.seq (.reg [⟨(some 14), none, .e (.mkm)⟩, ⟨(some 8), none, .e (.alc [(.map none)])⟩, ⟨none, none, .e (.st 1 (.tmp 8) (.tmp 14))⟩])
  (.seq (.reg [⟨(some 15), none, .p (.mkf 53 [(.tmp 8), (.tmp 6), (.tmp 7), (.tmp 2), (.tmp 5)])⟩, ⟨(some 9), none, .p (.mov (.tmp 15))⟩])
  (.seq (.block 0
  (.loop lb33_0))
  (.seq (.dreg [⟨(some 18), none, .p (.ld none (.tmp 7))⟩, ⟨(some 19), none, .p (.ld none (.tmp 7))⟩, ⟨(some 20), none, .p (.ld none (.tmp 6))⟩, ⟨(some 21), none, .e (.call 55 [(.tmp 19), (.tmp 20)])⟩, ⟨(some 22), none, .p (.slc 1 (.tmp 18) (some (.tmp 21)) none)⟩] [[⟨(some 23), none, .e (.call 54 [(.tmp 22)])⟩, ⟨(some 10), none, .p (.mov (.tmp 23))⟩]])
  (.seq (.reg [⟨(some 24), none, .p (.mov (.tmp 10))⟩, ⟨(some 25), none, .e (.call 56 [(.tmp 24)])⟩])
  (.seq (.reg [⟨(some 26), none, .p (.mov (.tmp 10))⟩, ⟨(some 4), none, .p (.mov (.tmp 26))⟩])
  .ret))))))))))
def rf33 : List RX := [.tmp 4]
set_option maxRecDepth 100000 in
theorem comp33 : cFn Try.prog Try.f33 = some (erase cf33, rf33) := by kernel_rfl
def cf38 : LC :=
  (.seq (.reg [⟨(some 7), none, .p (.mov (.const (.int .i64 0)))⟩])
  (.seq (.block 0
  (.seq (.reg [⟨(some 9), none, .p (.fad 0 (.tmp 2))⟩, ⟨(some 10), none, .p (.ld none (.tmp 9))⟩, ⟨(some 11), none, .p (.mov (.tmp 0))⟩, ⟨(some 12), none, .p (.iad 1 (.tmp 10) (.tmp 11))⟩, ⟨(some 13), none, .p (.ld none (.tmp 12))⟩, ⟨(some 14), none, .p (.bin .lss (.tmp 13) (.const (.int .i64 0)))⟩, ⟨(some 15), none, .p (.mov (.tmp 14))⟩, ⟨(some 16), (some (15, false)), .p (.fad 0 (.tmp 2))⟩, ⟨(some 17), (some (15, false)), .p (.ld none (.tmp 16))⟩, ⟨(some 18), (some (15, false)), .p (.mov (.tmp 1))⟩, ⟨(some 19), (some (15, false)), .p (.iad 1 (.tmp 17) (.tmp 18))⟩, ⟨(some 20), (some (15, false)), .p (.ld none (.tmp 19))⟩, ⟨(some 21), (some (15, false)), .p (.bin .lss (.tmp 20) (.const (.int .i64 0)))⟩, ⟨(some 22), none, .p (.pick (.tmp 15) (.const (.bool true)) (.tmp 21))⟩, ⟨(some 8), none, .p (.mov (.tmp 22))⟩])
  (.cond (.tmp 8) (.seq (.reg [⟨(some 7), none, .p (.mov (.const (.int .i64 (-1))))⟩])
  .ret) (.seq (.reg [⟨(some 24), none, .p (.ld (some 1) (.tmp 2))⟩, ⟨(some 25), none, .p (.mov (.tmp 1))⟩, ⟨(some 26), none, .p (.mov (.tmp 0))⟩, ⟨(some 27), none, .e (.call 39 [(.tmp 24), (.tmp 25), (.tmp 26)])⟩, ⟨(some 23), none, .p (.mov (.tmp 27))⟩])
  (.cond (.tmp 23) (.seq (.dreg [⟨(some 28), none, .p (.ld none (.tmp 3))⟩, ⟨(some 29), none, .p (.bin .sub (.tmp 28) (.const (.int .i64 1)))⟩, ⟨(some 30), none, .p (.ld none (.tmp 4))⟩, ⟨(some 31), none, .p (.mov (.tmp 0))⟩, ⟨(some 32), none, .p (.iad 1 (.tmp 30) (.tmp 31))⟩, ⟨(some 33), none, .p (.ld none (.tmp 32))⟩, ⟨(some 34), none, .p (.bin .sub (.tmp 29) (.tmp 33))⟩] [[⟨(some 7), none, .p (.mov (.tmp 34))⟩]])
  .ret) .skip)))))
  (.seq (.dreg [⟨(some 35), none, .p (.ld none (.tmp 3))⟩, ⟨(some 36), none, .p (.ld none (.tmp 4))⟩, ⟨(some 37), none, .p (.mov (.tmp 1))⟩, ⟨(some 38), none, .p (.iad 1 (.tmp 36) (.tmp 37))⟩, ⟨(some 39), none, .p (.ld none (.tmp 38))⟩, ⟨(some 40), none, .p (.bin .add (.tmp 35) (.tmp 39))⟩] [[⟨(some 7), none, .p (.mov (.tmp 40))⟩]])
  .ret)))
def rf38 : List RX := [.tmp 7]
set_option maxRecDepth 100000 in
theorem comp38 : cFn Try.prog Try.f38 = some (erase cf38, rf38) := by kernel_rfl
def cf50 : LC :=
  (.seq (.reg [⟨(some 3), none, .p (.mov (.const (.bool false)))⟩])
  (.seq (.reg [⟨(some 4), none, .p (.ld none (.tmp 1))⟩, ⟨(some 5), none, .p (.mov (.tmp 0))⟩, ⟨(some 6), none, .p (.iad 1 (.tmp 4) (.tmp 5))⟩, ⟨(some 7), none, .p (.ld none (.tmp 6))⟩, ⟨(some 8), none, .p (.bin .gtr (.tmp 7) (.const (.int .i64 0)))⟩, ⟨(some 3), none, .p (.mov (.tmp 8))⟩])
  .ret))
def rf50 : List RX := [.tmp 3]
set_option maxRecDepth 100000 in
theorem comp50 : cFn Try.prog Try.f50 = some (erase cf50, rf50) := by kernel_rfl
def cf52 : LC :=
  (.seq (.reg [⟨(some 2), none, .p (.mov (.const (.bool false)))⟩])
  (.seq (.reg [⟨(some 3), none, .p (.mov (.tmp 0))⟩, ⟨(some 4), none, .p (.bin .gtr (.tmp 3) (.const (.int .i64 0)))⟩, ⟨(some 2), none, .p (.mov (.tmp 4))⟩])
  .ret))
def rf52 : List RX := [.tmp 2]
set_option maxRecDepth 100000 in
theorem comp52 : cFn Try.prog Try.f52 = some (erase cf52, rf52) := by kernel_rfl
def cf53 : LC :=
  (.seq (.reg [⟨(some 5), none, .p (.mov (.const (.bool false)))⟩])
  (.seq (.seq (.reg [⟨(some 6), none, .p (.ld none (.tmp 0))⟩, ⟨(some 7), none, .p (.ld none (.tmp 1))⟩, ⟨(some 8), none, .p (.lkp 3 (.bool false) false (.tmp 6) (.tmp 7))⟩])
  (.cond (.tmp 8) (.seq (.reg [⟨(some 5), none, .p (.mov (.const (.bool false)))⟩])
  .ret) .skip))
  (.seq (.reg [⟨(some 9), none, .p (.ld none (.tmp 0))⟩, ⟨(some 10), none, .p (.ld none (.tmp 1))⟩, ⟨none, none, .e (.mup 3 (.tmp 9) (.tmp 10) (.const (.bool true)))⟩])
  (.seq (.reg [⟨(some 11), none, .p (.ld none (.tmp 2))⟩, ⟨(some 12), none, .p (.ld none (.tmp 1))⟩, ⟨(some 13), none, .e (.bsl 1 1 1 [(.int .i64 0)] [(0, 1, (.tmp 12))])⟩, ⟨(some 14), none, .e (.app 1 1 8 (.tmp 11) (.tmp 13))⟩, ⟨none, none, .e (.st 1 (.tmp 2) (.tmp 14))⟩])
  (.seq (.dreg [⟨(some 15), none, .p (.ld none (.tmp 3))⟩, ⟨(some 16), none, .p (.ld none (.tmp 1))⟩, ⟨(some 17), none, .p (.iad 1 (.tmp 15) (.tmp 16))⟩, ⟨(some 18), none, .p (.ld none (.tmp 17))⟩, ⟨(some 19), none, .p (.ld none (.tmp 3))⟩, ⟨(some 20), none, .p (.ld none (.tmp 1))⟩, ⟨(some 21), none, .p (.iad 1 (.tmp 19) (.tmp 20))⟩, ⟨(some 22), none, .p (.ld none (.tmp 21))⟩, ⟨(some 23), none, .p (.ld none (.tmp 4))⟩, ⟨(some 24), none, .e (.call 51 [(.tmp 22), (.tmp 23)])⟩, ⟨(some 25), none, .p (.iad 1 (.tmp 18) (.tmp 24))⟩, ⟨(some 26), none, .p (.ld none (.tmp 25))⟩] [[⟨none, none, .e (.st 1 (.tmp 1) (.tmp 26))⟩]])
  (.seq (.reg [⟨(some 5), none, .p (.mov (.const (.bool true)))⟩])
  .ret))))))
def rf53 : List RX := [.tmp 5]
set_option maxRecDepth 100000 in
theorem comp53 : cFn Try.prog Try.f53 = some (erase cf53, rf53) := by kernel_rfl
end Go.Proofs.Yteblljpbnpaplaa
namespace Go.Proofs.Yteblljpbnpaplaa
def lb32_0 : LC :=
  (.seq (.reg [⟨(some 23), none, .p (.bin .lss (.tmp 22) (.tmp 21))⟩])
  (.seq (.cond (.tmp 23) .skip (.exit 2))
  (.seq (.block 3
  (.seq (.reg [⟨(some 24), none, .p (.iad 3 (.tmp 20) (.tmp 22))⟩, ⟨(some 25), none, .p (.ld (some 3) (.tmp 24))⟩, ⟨(some 9), none, .e (.alc [(.int .i64 0), (.int .i64 0), (.int .i64 0)])⟩, ⟨none, none, .e (.st 3 (.tmp 9) (.tmp 25))⟩])
  (.reg [⟨(some 26), none, .p (.mov (.tmp 5))⟩, ⟨(some 27), none, .p (.ld (some 3) (.tmp 9))⟩, ⟨none, none, .e (.mup 26 (.tmp 26) (.tmp 27) (.const (.bool true)))⟩])))
  (.reg [⟨(some 28), none, .p (.bin .add (.tmp 22) (.const (.int .i64 1)))⟩, ⟨(some 22), none, .p (.mov (.tmp 28))⟩]))))
def lb32_1 : LC :=
  (.seq (.reg [⟨(some 14), none, .p (.bin .lss (.tmp 13) (.tmp 12))⟩])
  (.seq (.cond (.tmp 14) .skip (.exit 0))
  (.seq (.block 1
  (.seq (.reg [⟨(some 15), none, .p (.iad 3 (.tmp 11) (.tmp 13))⟩, ⟨(some 16), none, .p (.ld (some 3) (.tmp 15))⟩, ⟨(some 7), none, .e (.alc [(.int .i64 0), (.int .i64 0), (.int .i64 0)])⟩, ⟨none, none, .e (.st 3 (.tmp 7) (.tmp 16))⟩])
  (.reg [⟨(some 17), none, .p (.mov (.tmp 5))⟩, ⟨(some 18), none, .p (.ld (some 3) (.tmp 7))⟩, ⟨none, none, .e (.mup 26 (.tmp 17) (.tmp 18) (.const (.bool true)))⟩])))
  (.reg [⟨(some 19), none, .p (.bin .add (.tmp 13) (.const (.int .i64 1)))⟩, ⟨(some 13), none, .p (.mov (.tmp 19))⟩]))))
def cf32 : LC :=
  (.seq (.reg [⟨(some 4), none, .p (.mov (.const (.slice none 0 0)))⟩])
  (.seq (.reg [⟨(some 10), none, .e (.mkm)⟩, ⟨(some 5), none, .p (.mov (.tmp 10))⟩])
  (.seq (.seq (.reg [⟨(some 11), none, .p (.mov (.tmp 0))⟩, ⟨(some 12), none, .p (.len 1 (.tmp 11))⟩, ⟨(some 13), none, .p (.mov (.const (.int .i64 0)))⟩])
  (.block 0
  (.loop lb32_1)))
  (.seq (.seq (.reg [⟨(some 20), none, .p (.mov (.tmp 1))⟩, ⟨(some 21), none, .p (.len 1 (.tmp 20))⟩, ⟨(some 22), none, .p (.mov (.const (.int .i64 0)))⟩])
  (.block 2
  (.loop lb32_0)))
  (.seq (.reg [⟨(some 29), none, .p (.mov (.tmp 5))⟩, ⟨(some 30), none, .e (.call 48 [(.tmp 29)])⟩, ⟨(some 31), none, .e (.call 47 [(.tmp 30), (.func 49)])⟩, ⟨(some 4), none, .p (.mov (.tmp 31))⟩])
  .ret)))))
def rf32 : List RX := [.tmp 4]
set_option maxRecDepth 100000 in
theorem comp32 : cFn Try.prog Try.f32 = some (erase cf32, rf32) := by kernel_rfl
def cf49 : LC :=
  (.seq (.reg [⟨(some 2), none, .e (.box (.tmp 0))⟩, ⟨(some 3), none, .e (.box (.tmp 1))⟩, ⟨(some 4), none, .p (.mov (.const (.int .i64 0)))⟩])
  (.seq (.dreg [⟨(some 5), none, .p (.fad 0 (.tmp 2))⟩, ⟨(some 6), none, .p (.ld none (.tmp 5))⟩, ⟨(some 7), none, .p (.fad 0 (.tmp 3))⟩, ⟨(some 8), none, .p (.ld none (.tmp 7))⟩, ⟨(some 9), none, .e (.call 60 [(.tmp 6), (.tmp 8)])⟩, ⟨(some 10), none, .p (.fad 1 (.tmp 2))⟩, ⟨(some 11), none, .p (.ld none (.tmp 10))⟩, ⟨(some 12), none, .p (.fad 1 (.tmp 3))⟩, ⟨(some 13), none, .p (.ld none (.tmp 12))⟩, ⟨(some 14), none, .e (.call 60 [(.tmp 11), (.tmp 13)])⟩, ⟨(some 15), none, .p (.fad 2 (.tmp 2))⟩, ⟨(some 16), none, .p (.ld none (.tmp 15))⟩, ⟨(some 17), none, .p (.fad 2 (.tmp 3))⟩, ⟨(some 18), none, .p (.ld none (.tmp 17))⟩, ⟨(some 19), none, .e (.call 60 [(.tmp 16), (.tmp 18)])⟩, ⟨(some 20), none, .e (.bsr 3 1 [(.int .i64 0)] [(0, 1, (.tmp 9)), (1, 1, (.tmp 14)), (2, 1, (.tmp 19))])⟩, ⟨(some 21), none, .e (.call 59 [(.tmp 20)])⟩] [[⟨(some 4), none, .p (.mov (.tmp 21))⟩]])
  .ret))
def rf49 : List RX := [.tmp 4]
set_option maxRecDepth 100000 in
theorem comp49 : cFn Try.prog Try.f49 = some (erase cf49, rf49) := by kernel_rfl
end Go.Proofs.Yteblljpbnpaplaa
namespace Go.Proofs.Yteblljpbnpaplaa
def lb8_0 : LC :=
  (.seq (.reg [⟨(some 93), none, .p (.bin .lss (.tmp 92) (.tmp 91))⟩])
  (.seq (.cond (.tmp 93) .skip (.exit 2))
  (.seq (.block 3
  (.seq (.reg [⟨(some 94), none, .p (.mov (.tmp 92))⟩, ⟨(some 18), none, .p (.mov (.tmp 94))⟩])
  (.seq (.reg [⟨(some 96), none, .p (.mov (.tmp 11))⟩, ⟨(some 97), none, .p (.mov (.tmp 18))⟩, ⟨(some 98), none, .e (.calv (.tmp 96) [(.tmp 97)])⟩, ⟨(some 95), none, .p (.mov (.tmp 98))⟩, ⟨(some 99), none, .p (.ext (.tmp 95) 0)⟩, ⟨(some 100), none, .p (.ext (.tmp 95) 1)⟩, ⟨(some 101), none, .p (.ext (.tmp 95) 2)⟩, ⟨(some 102), none, .p (.ext (.tmp 95) 3)⟩, ⟨(some 19), none, .p (.mov (.tmp 99))⟩, ⟨(some 20), none, .p (.mov (.tmp 100))⟩, ⟨(some 21), none, .p (.mov (.tmp 101))⟩, ⟨(some 22), none, .p (.mov (.tmp 102))⟩])
  (.seq (.reg [⟨(some 103), none, .p (.mov (.tmp 22))⟩, ⟨(some 104), none, .p (.mov (.tmp 103))⟩, ⟨(some 105), (some (104, true)), .p (.mov (.tmp 19))⟩, ⟨(some 106), (some (104, true)), .p (.mov (.tmp 15))⟩, ⟨(some 107), (some (104, true)), .p (.bin .eql (.tmp 105) (.tmp 106))⟩, ⟨(some 108), none, .p (.pick (.tmp 104) (.tmp 107) (.const (.bool false)))⟩, ⟨(some 109), none, .p (.mov (.tmp 108))⟩, ⟨(some 110), (some (109, true)), .p (.mov (.tmp 16))⟩, ⟨(some 111), (some (109, true)), .p (.mov (.tmp 110))⟩, ⟨(some 112), (some (111, false)), .p (.mov (.tmp 21))⟩, ⟨(some 113), (some (111, false)), .p (.un .not (.tmp 112))⟩, ⟨(some 114), (some (109, true)), .p (.pick (.tmp 111) (.const (.bool true)) (.tmp 113))⟩, ⟨(some 115), none, .p (.pick (.tmp 109) (.tmp 114) (.const (.bool false)))⟩])
  (.cond (.tmp 115) (.reg [⟨(some 116), none, .p (.mov (.tmp 12))⟩, ⟨(some 117), none, .p (.mov (.tmp 13))⟩, ⟨(some 118), none, .p (.mov (.tmp 18))⟩, ⟨(some 119), none, .p (.mov (.tmp 15))⟩, ⟨(some 120), none, .p (.bld [(.int .i64 0), (.int .i64 0), (.int .i64 0)] [(0, 1, (.tmp 117)), (1, 1, (.tmp 118)), (2, 1, (.tmp 119))])⟩, ⟨(some 121), none, .e (.bsl 0 1 3 [(.int .i64 0), (.int .i64 0), (.int .i64 0)] [(0, 3, (.tmp 120))])⟩, ⟨(some 122), none, .e (.app 0 3 24 (.tmp 116) (.tmp 121))⟩, ⟨(some 12), none, .p (.mov (.tmp 122))⟩]) .skip)))))
  (.reg [⟨(some 123), none, .p (.bin .add (.tmp 92) (.const (.int .i64 1)))⟩, ⟨(some 92), none, .p (.mov (.tmp 123))⟩]))))
def lb8_1 : LC :=
  (.seq (.reg [⟨(some 73), none, .p (.bin .lss (.tmp 72) (.tmp 71))⟩])
  (.seq (.cond (.tmp 73) .skip (.exit 0))
  (.seq (.block 1
  (.seq (.reg [⟨(some 74), none, .p (.mov (.tmp 72))⟩, ⟨(some 13), none, .p (.mov (.tmp 74))⟩])
  (.seq (.reg [⟨(some 76), none, .p (.mov (.tmp 11))⟩, ⟨(some 77), none, .p (.mov (.tmp 13))⟩, ⟨(some 78), none, .e (.calv (.tmp 76) [(.tmp 77)])⟩, ⟨(some 75), none, .p (.mov (.tmp 78))⟩, ⟨(some 79), none, .p (.ext (.tmp 75) 0)⟩, ⟨(some 80), none, .p (.ext (.tmp 75) 1)⟩, ⟨(some 81), none, .p (.ext (.tmp 75) 2)⟩, ⟨(some 82), none, .p (.ext (.tmp 75) 3)⟩, ⟨(some 14), none, .p (.mov (.tmp 79))⟩, ⟨(some 15), none, .p (.mov (.tmp 80))⟩, ⟨(some 16), none, .p (.mov (.tmp 81))⟩, ⟨(some 17), none, .p (.mov (.tmp 82))⟩])
  (.seq (.seq (.reg [⟨(some 83), none, .p (.mov (.tmp 17))⟩, ⟨(some 84), none, .p (.un .not (.tmp 83))⟩])
  (.cond (.tmp 84) (.seq (.seq (.reg [⟨(some 85), none, .p (.mov (.tmp 9))⟩, ⟨(some 86), none, .p (.mov (.tmp 13))⟩, ⟨(some 87), none, .p (.iad 1 (.tmp 85) (.tmp 86))⟩, ⟨(some 88), none, .p (.ld none (.tmp 87))⟩, ⟨(some 89), none, .p (.bin .neq (.tmp 88) (.const (.int .i64 (-1))))⟩])
  (.cond (.tmp 89) (.seq (.reg [⟨(some 6), none, .p (.mov (.const (.bool false)))⟩])
  .ret) .skip))
  (.exit 1)) .skip))
  (.seq (.reg [⟨(some 90), none, .p (.mov (.tmp 9))⟩, ⟨(some 91), none, .p (.len 1 (.tmp 90))⟩, ⟨(some 92), none, .p (.mov (.const (.int .i64 0)))⟩])
  (.block 2
  (.loop lb8_0)))))))
  (.reg [⟨(some 124), none, .p (.bin .add (.tmp 72) (.const (.int .i64 1)))⟩, ⟨(some 72), none, .p (.mov (.tmp 124))⟩]))))
def cf8 : LC :=
  (.seq (.reg [⟨(some 3), none, .e (.box (.tmp 0))⟩, ⟨(some 6), none, .p (.mov (.const (.bool false)))⟩])
  (.seq (.seq (.reg [⟨(some 23), none, .e (.call 9 [])⟩, ⟨(some 24), none, .p (.un .not (.tmp 23))⟩, ⟨(some 25), none, .p (.mov (.tmp 24))⟩, ⟨(some 26), (some (25, false)), .p (.fad 0 (.tmp 3))⟩, ⟨(some 27), (some (25, false)), .p (.ld none (.tmp 26))⟩, ⟨(some 28), (some (25, false)), .p (.len 1 (.tmp 27))⟩, ⟨(some 29), (some (25, false)), .p (.bin .gtr (.tmp 28) (.const (.int .i64 60)))⟩, ⟨(some 30), none, .p (.pick (.tmp 25) (.const (.bool true)) (.tmp 29))⟩, ⟨(some 31), none, .p (.mov (.tmp 30))⟩, ⟨(some 32), (some (31, false)), .p (.fad 1 (.tmp 3))⟩, ⟨(some 33), (some (31, false)), .p (.ld none (.tmp 32))⟩, ⟨(some 34), (some (31, false)), .p (.len 1 (.tmp 33))⟩, ⟨(some 35), (some (31, false)), .p (.bin .gtr (.tmp 34) (.const (.int .i64 60)))⟩, ⟨(some 36), none, .p (.pick (.tmp 31) (.const (.bool true)) (.tmp 35))⟩, ⟨(some 37), none, .p (.mov (.tmp 36))⟩, ⟨(some 38), (some (37, false)), .p (.mov (.tmp 1))⟩, ⟨(some 39), (some (37, false)), .p (.len 1 (.tmp 38))⟩, ⟨(some 40), (some (37, false)), .p (.bin .gtr (.tmp 39) (.const (.int .i64 60)))⟩, ⟨(some 41), none, .p (.pick (.tmp 37) (.const (.bool true)) (.tmp 40))⟩])
  (.cond (.tmp 41) (.seq (.reg [⟨(some 42), none, .e (.call 9 [])⟩, ⟨(some 6), none, .p (.mov (.tmp 42))⟩])
  .ret) .skip))
  (.seq (.reg [⟨(some 44), none, .p (.ld (some 2) (.tmp 3))⟩, ⟨(some 45), none, .p (.mov (.tmp 1))⟩, ⟨(some 46), none, .p (.mov (.tmp 2))⟩, ⟨(some 47), none, .e (.call 25 [(.tmp 44), (.tmp 45), (.tmp 46)])⟩, ⟨(some 43), none, .p (.mov (.tmp 47))⟩, ⟨(some 48), none, .p (.ext (.tmp 43) 0)⟩, ⟨(some 49), none, .p (.ext (.tmp 43) 1)⟩, ⟨(some 7), none, .e (.alc [(.slice none 0 0)])⟩, ⟨none, none, .e (.st 1 (.tmp 7) (.tmp 48))⟩, ⟨(some 8), none, .p (.mov (.tmp 49))⟩])
  (.seq (.seq (.reg [⟨(some 50), none, .p (.mov (.tmp 8))⟩, ⟨(some 51), none, .p (.bin .neq (.tmp 50) (.const (.int .i64 0)))⟩])
  (.cond (.tmp 51) (.seq (.reg [⟨(some 6), none, .p (.mov (.const (.bool true)))⟩])
  .ret) .skip))
  (.seq (.reg [⟨(some 53), none, .p (.ld (some 2) (.tmp 3))⟩, ⟨(some 54), none, .p (.ld (some 1) (.tmp 7))⟩, ⟨(some 55), none, .e (.call 20 [(.tmp 53), (.tmp 54)])⟩, ⟨(some 52), none, .p (.mov (.tmp 55))⟩, ⟨(some 56), none, .p (.ext (.tmp 52) 0)⟩, ⟨(some 57), none, .p (.ext (.tmp 52) 1)⟩, ⟨(some 9), none, .p (.mov (.tmp 56))⟩, ⟨(some 10), none, .p (.mov (.tmp 57))⟩])
  (.seq (.seq (.reg [⟨(some 58), none, .p (.mov (.tmp 10))⟩, ⟨(some 59), none, .p (.bin .neq (.tmp 58) (.const (.int .i64 0)))⟩, ⟨(some 60), none, .p (.mov (.tmp 59))⟩, ⟨(some 61), (some (60, false)), .p (.mov (.tmp 9))⟩, ⟨(some 62), (some (60, false)), .p (.len 1 (.tmp 61))⟩, ⟨(some 63), (some (60, false)), .p (.fad 1 (.tmp 3))⟩, ⟨(some 64), (some (60, false)), .p (.ld none (.tmp 63))⟩, ⟨(some 65), (some (60, false)), .p (.len 1 (.tmp 64))⟩, ⟨(some 66), (some (60, false)), .p (.bin .mul (.const (.int .i64 2)) (.tmp 65))⟩, ⟨(some 67), (some (60, false)), .p (.bin .neq (.tmp 62) (.tmp 66))⟩, ⟨(some 68), none, .p (.pick (.tmp 60) (.const (.bool true)) (.tmp 67))⟩])
  (.cond (.tmp 68) (.seq (.reg [⟨(some 6), none, .p (.mov (.const (.bool false)))⟩])
  .ret) .skip))
  (.seq (.reg [⟨(some 69), none, .p (.mkf 26 [(.tmp 3), (.tmp 7)])⟩, ⟨(some 11), none, .p (.mov (.tmp 69))⟩])
  (.seq (.reg [⟨(some 12), none, .p (.mov (.const (.slice none 0 0)))⟩])
  (.seq (.seq (.reg [⟨(some 70), none, .p (.mov (.tmp 9))⟩, ⟨(some 71), none, .p (.len 1 (.tmp 70))⟩, ⟨(some 72), none, .p (.mov (.const (.int .i64 0)))⟩])
  (.block 0
  (.loop lb8_1)))
  (.seq (.reg [⟨(some 125), none, .p (.mov (.tmp 12))⟩, ⟨(some 126), none, .p (.mov (.tmp 9))⟩, ⟨(some 127), none, .e (.call 12 [(.tmp 125), (.tmp 126)])⟩, ⟨(some 128), none, .p (.len 1 (.tmp 127))⟩, ⟨(some 129), none, .p (.bin .eql (.tmp 128) (.const (.int .i64 0)))⟩, ⟨(some 6), none, .p (.mov (.tmp 129))⟩])
  .ret))))))))))
def rf8 : List RX := [.tmp 6]
set_option maxRecDepth 100000 in
theorem comp8 : cFn Try.prog Try.f8 = some (erase cf8, rf8) := by kernel_rfl
def cf9 : LC :=
  (.seq (.reg [⟨(some 0), none, .p (.mov (.const (.bool false)))⟩])
  (.seq (.reg [⟨(some 8), none, .p (.bld [(.int .i64 0), (.int .i64 0)] [(0, 1, (.const (.int .i64 0))), (1, 1, (.const (.int .i64 1)))])⟩, ⟨(some 9), none, .p (.bld [(.int .i64 0), (.int .i64 0)] [(0, 1, (.const (.int .i64 1))), (1, 1, (.const (.int .i64 2)))])⟩, ⟨(some 10), none, .p (.bld [(.int .i64 0), (.int .i64 0)] [(0, 1, (.const (.int .i64 0))), (1, 1, (.const (.int .i64 2)))])⟩, ⟨(some 11), none, .e (.bsl 0 3 2 [(.int .i64 0), (.int .i64 0)] [(0, 2, (.tmp 8)), (2, 2, (.tmp 9)), (4, 2, (.tmp 10))])⟩, ⟨(some 12), none, .e (.call 28 [(.tmp 11)])⟩, ⟨(some 13), none, .e (.call 14 [(.tmp 12), (.const (.int .i64 3))])⟩, ⟨(some 7), none, .p (.mov (.tmp 13))⟩, ⟨(some 14), none, .p (.ext (.tmp 7) 0)⟩, ⟨(some 15), none, .p (.ext (.tmp 7) 1)⟩, ⟨(some 16), none, .p (.ext (.tmp 7) 2)⟩, ⟨(some 1), none, .p (.mov (.tmp 14))⟩, ⟨(some 2), none, .p (.mov (.tmp 15))⟩, ⟨(some 3), none, .p (.mov (.tmp 16))⟩])
  (.seq (.reg [⟨(some 18), none, .p (.bld [(.int .i64 0), (.int .i64 0)] [(0, 1, (.const (.int .i64 0))), (1, 1, (.const (.int .i64 1)))])⟩, ⟨(some 19), none, .p (.bld [(.int .i64 0), (.int .i64 0)] [(0, 1, (.const (.int .i64 1))), (1, 1, (.const (.int .i64 2)))])⟩, ⟨(some 20), none, .p (.bld [(.int .i64 0), (.int .i64 0)] [(0, 1, (.const (.int .i64 2))), (1, 1, (.const (.int .i64 0)))])⟩, ⟨(some 21), none, .e (.bsl 0 3 2 [(.int .i64 0), (.int .i64 0)] [(0, 2, (.tmp 18)), (2, 2, (.tmp 19)), (4, 2, (.tmp 20))])⟩, ⟨(some 22), none, .e (.call 28 [(.tmp 21)])⟩, ⟨(some 23), none, .e (.call 14 [(.tmp 22), (.const (.int .i64 3))])⟩, ⟨(some 17), none, .p (.mov (.tmp 23))⟩, ⟨(some 24), none, .p (.ext (.tmp 17) 0)⟩, ⟨(some 25), none, .p (.ext (.tmp 17) 1)⟩, ⟨(some 26), none, .p (.ext (.tmp 17) 2)⟩, ⟨(some 4), none, .p (.mov (.tmp 24))⟩, ⟨(some 5), none, .p (.mov (.tmp 25))⟩, ⟨(some 6), none, .p (.mov (.tmp 26))⟩])
  (.seq (.reg [⟨(some 27), none, .p (.mov (.tmp 3))⟩, ⟨(some 28), none, .p (.bin .eql (.tmp 27) (.const (.int .i64 0)))⟩, ⟨(some 29), none, .p (.mov (.tmp 28))⟩, ⟨(some 30), (some (29, true)), .p (.mov (.tmp 1))⟩, ⟨(some 31), (some (29, true)), .e (.bsl 1 3 1 [(.int .i64 0)] [(0, 1, (.const (.int .i64 0))), (1, 1, (.const (.int .i64 1))), (2, 1, (.const (.int .i64 2)))])⟩, ⟨(some 32), (some (29, true)), .e (.call 29 [(.tmp 30), (.tmp 31)])⟩, ⟨(some 33), none, .p (.pick (.tmp 29) (.tmp 32) (.const (.bool false)))⟩, ⟨(some 34), none, .p (.mov (.tmp 33))⟩, ⟨(some 35), (some (34, true)), .p (.mov (.tmp 6))⟩, ⟨(some 36), (some (34, true)), .p (.bin .eql (.tmp 35) (.const (.int .i64 11)))⟩, ⟨(some 37), none, .p (.pick (.tmp 34) (.tmp 36) (.const (.bool false)))⟩, ⟨(some 38), none, .p (.mov (.tmp 37))⟩, ⟨(some 39), (some (38, true)), .p (.mov (.tmp 5))⟩, ⟨(some 40), (some (38, true)), .p (.len 1 (.tmp 39))⟩, ⟨(some 41), (some (38, true)), .p (.bin .eql (.tmp 40) (.const (.int .i64 3)))⟩, ⟨(some 42), none, .p (.pick (.tmp 38) (.tmp 41) (.const (.bool false)))⟩, ⟨(some 0), none, .p (.mov (.tmp 42))⟩])
  .ret))))
def rf9 : List RX := [.tmp 0]
set_option maxRecDepth 100000 in
theorem comp9 : cFn Try.prog Try.f9 = some (erase cf9, rf9) := by kernel_rfl
def cf26 : LC :=
  (.seq (.reg [⟨(some 4), none, .p (.mov (.const (.int .i64 0)))⟩, ⟨(some 5), none, .p (.mov (.const (.int .i64 0)))⟩, ⟨(some 6), none, .p (.mov (.const (.bool false)))⟩, ⟨(some 7), none, .p (.mov (.const (.bool false)))⟩])
  (.seq (.dreg [⟨(some 12), none, .p (.fad 1 (.tmp 1))⟩, ⟨(some 13), none, .p (.ld none (.tmp 12))⟩, ⟨(some 14), none, .p (.mov (.tmp 0))⟩, ⟨(some 15), none, .p (.bin .quo (.tmp 14) (.const (.int .i64 2)))⟩, ⟨(some 16), none, .p (.iad 6 (.tmp 13) (.tmp 15))⟩, ⟨(some 17), none, .p (.fad 0 (.tmp 16))⟩, ⟨(some 18), none, .p (.ld none (.tmp 17))⟩, ⟨(some 19), none, .p (.fad 1 (.tmp 1))⟩, ⟨(some 20), none, .p (.ld none (.tmp 19))⟩, ⟨(some 21), none, .p (.mov (.tmp 0))⟩, ⟨(some 22), none, .p (.bin .quo (.tmp 21) (.const (.int .i64 2)))⟩, ⟨(some 23), none, .p (.iad 6 (.tmp 20) (.tmp 22))⟩, ⟨(some 24), none, .p (.fad 2 (.tmp 23))⟩, ⟨(some 25), none, .p (.ld none (.tmp 24))⟩, ⟨(some 8), none, .p (.mov (.tmp 18))⟩] [[⟨(some 9), none, .p (.mov (.tmp 25))⟩]])
  (.seq (.seq (.reg [⟨(some 26), none, .p (.mov (.tmp 0))⟩, ⟨(some 27), none, .p (.bin .rem (.tmp 26) (.const (.int .i64 2)))⟩, ⟨(some 28), none, .p (.bin .eql (.tmp 27) (.const (.int .i64 1)))⟩])
  (.cond (.tmp 28) (.reg [⟨(some 29), none, .p (.mov (.tmp 9))⟩, ⟨(some 30), none, .p (.mov (.tmp 8))⟩, ⟨(some 8), none, .p (.mov (.tmp 29))⟩, ⟨(some 9), none, .p (.mov (.tmp 30))⟩]) .skip))
  (.seq (.reg [⟨(some 32), none, .p (.ld (some 2) (.tmp 1))⟩, ⟨(some 33), none, .p (.ld (some 1) (.tmp 2))⟩, ⟨(some 34), none, .p (.mov (.tmp 0))⟩, ⟨(some 35), none, .p (.bin .quo (.tmp 34) (.const (.int .i64 2)))⟩, ⟨(some 36), none, .p (.mov (.tmp 8))⟩, ⟨(some 37), none, .e (.call 27 [(.tmp 32), (.tmp 33), (.tmp 35), (.tmp 36)])⟩, ⟨(some 31), none, .p (.mov (.tmp 37))⟩, ⟨(some 38), none, .p (.ext (.tmp 31) 0)⟩, ⟨(some 39), none, .p (.ext (.tmp 31) 1)⟩, ⟨(some 10), none, .p (.mov (.tmp 38))⟩, ⟨(some 11), none, .p (.mov (.tmp 39))⟩])
  (.seq (.reg [⟨(some 40), none, .p (.mov (.tmp 8))⟩, ⟨(some 41), none, .p (.mov (.tmp 9))⟩, ⟨(some 42), none, .p (.mov (.tmp 10))⟩, ⟨(some 43), none, .p (.mov (.tmp 11))⟩, ⟨(some 44), none, .p (.bin .eql (.tmp 43) (.const (.int .i64 0)))⟩, ⟨(some 4), none, .p (.mov (.tmp 40))⟩, ⟨(some 5), none, .p (.mov (.tmp 41))⟩, ⟨(some 6), none, .p (.mov (.tmp 42))⟩, ⟨(some 7), none, .p (.mov (.tmp 44))⟩])
  .ret)))))
def rf26 : List RX := [.tmp 4, .tmp 5, .tmp 6, .tmp 7]
set_option maxRecDepth 100000 in
theorem comp26 : cFn Try.prog Try.f26 = some (erase cf26, rf26) := by kernel_rfl
def lb28_0 : LC :=
  (.seq (.reg [⟨(some 9), none, .p (.bin .lss (.tmp 8) (.tmp 7))⟩])
  (.seq (.cond (.tmp 9) .skip (.exit 0))
  (.seq (.block 1
  (.seq (.reg [⟨(some 10), none, .p (.iad 2 (.tmp 6) (.tmp 8))⟩, ⟨(some 11), none, .p (.ld (some 2) (.tmp 10))⟩, ⟨(some 5), none, .e (.alc [(.int .i64 0), (.int .i64 0)])⟩, ⟨none, none, .e (.st 2 (.tmp 5) (.tmp 11))⟩])
  (.reg [⟨(some 12), none, .p (.mov (.tmp 3))⟩, ⟨(some 13), none, .p (.iada 2 1 (.tmp 5) (.const (.int .i64 0)))⟩, ⟨(some 14), none, .p (.ld none (.tmp 13))⟩, ⟨(some 15), none, .p (.iada 2 1 (.tmp 5) (.const (.int .i64 1)))⟩, ⟨(some 16), none, .p (.ld none (.tmp 15))⟩, ⟨(some 17), none, .p (.bld [(.int .i64 0), (.int .i64 0), (.int .i64 0)] [(0, 1, (.tmp 14)), (1, 1, (.tmp 16))])⟩, ⟨(some 18), none, .e (.bsl 0 1 3 [(.int .i64 0), (.int .i64 0), (.int .i64 0)] [(0, 3, (.tmp 17))])⟩, ⟨(some 19), none, .e (.app 0 3 24 (.tmp 12) (.tmp 18))⟩, ⟨(some 3), none, .p (.mov (.tmp 19))⟩])))
  (.reg [⟨(some 20), none, .p (.bin .add (.tmp 8) (.const (.int .i64 1)))⟩, ⟨(some 8), none, .p (.mov (.tmp 20))⟩]))))
def cf28 : LC :=
  (.seq (.reg [⟨(some 2), none, .p (.mov (.const (.slice none 0 0)))⟩])
  (.seq (.reg [⟨(some 3), none, .p (.mov (.const (.slice none 0 0)))⟩])
  (.seq (.seq (.reg [⟨(some 6), none, .p (.mov (.tmp 0))⟩, ⟨(some 7), none, .p (.len 1 (.tmp 6))⟩, ⟨(some 8), none, .p (.mov (.const (.int .i64 0)))⟩])
  (.block 0
  (.loop lb28_0)))
  (.seq (.reg [⟨(some 21), none, .p (.mov (.tmp 3))⟩, ⟨(some 2), none, .p (.mov (.tmp 21))⟩])
  .ret))))
def rf28 : List RX := [.tmp 2]
set_option maxRecDepth 100000 in
theorem comp28 : cFn Try.prog Try.f28 = some (erase cf28, rf28) := by kernel_rfl
end Go.Proofs.Yteblljpbnpaplaa
namespace Go.Proofs.Yteblljpbnpaplaa
end Go.Proofs.Yteblljpbnpaplaa
namespace Go.Proofs.Yteblljpbnpaplaa
end Go.Proofs.Yteblljpbnpaplaa
namespace Go.Proofs.Yteblljpbnpaplaa
def lb21_0 : LC :=
  (.seq (.reg [⟨(some 75), none, .p (.bin .lss (.tmp 74) (.tmp 73))⟩])
  (.seq (.cond (.tmp 75) .skip (.exit 6))
  (.seq (.block 7
  (.seq (.reg [⟨(some 76), none, .p (.iad 6 (.tmp 72) (.tmp 74))⟩, ⟨(some 77), none, .p (.ld (some 6) (.tmp 76))⟩, ⟨(some 10), none, .e (.alc [(.int .i64 0), (.int .i64 0), (.int .i64 0), (.int .i64 0), (.int .i64 0), (.int .i64 0)])⟩, ⟨none, none, .e (.st 6 (.tmp 10) (.tmp 77))⟩])
  (.seq (.reg [⟨(some 78), none, .p (.fad 4 (.tmp 10))⟩, ⟨(some 79), none, .p (.ld none (.tmp 78))⟩, ⟨(some 80), none, .p (.bin .lss (.tmp 79) (.const (.int .i64 1)))⟩, ⟨(some 81), none, .p (.mov (.tmp 80))⟩, ⟨(some 82), (some (81, false)), .p (.fad 4 (.tmp 10))⟩, ⟨(some 83), (some (81, false)), .p (.ld none (.tmp 82))⟩, ⟨(some 84), (some (81, false)), .p (.bin .gtr (.tmp 83) (.const (.int .i64 100)))⟩, ⟨(some 85), none, .p (.pick (.tmp 81) (.const (.bool true)) (.tmp 84))⟩, ⟨(some 86), none, .p (.mov (.tmp 85))⟩, ⟨(some 87), (some (86, false)), .p (.fad 5 (.tmp 10))⟩, ⟨(some 88), (some (86, false)), .p (.ld none (.tmp 87))⟩, ⟨(some 89), (some (86, false)), .p (.bin .lss (.tmp 88) (.const (.int .i64 1)))⟩, ⟨(some 90), none, .p (.pick (.tmp 86) (.const (.bool true)) (.tmp 89))⟩, ⟨(some 91), none, .p (.mov (.tmp 90))⟩, ⟨(some 92), (some (91, false)), .p (.fad 5 (.tmp 10))⟩, ⟨(some 93), (some (91, false)), .p (.ld none (.tmp 92))⟩, ⟨(some 94), (some (91, false)), .p (.bin .gtr (.tmp 93) (.const (.int .i64 1000)))⟩, ⟨(some 95), none, .p (.pick (.tmp 91) (.const (.bool true)) (.tmp 94))⟩])
  (.cond (.tmp 95) (.seq (.reg [⟨(some 2), none, .p (.mov (.const (.int .i64 3)))⟩])
  .ret) .skip))))
  (.reg [⟨(some 96), none, .p (.bin .add (.tmp 74) (.const (.int .i64 1)))⟩, ⟨(some 74), none, .p (.mov (.tmp 96))⟩]))))
def lb21_1 : LC :=
  (.seq (.reg [⟨(some 62), none, .p (.bin .lss (.tmp 61) (.tmp 60))⟩])
  (.seq (.cond (.tmp 62) .skip (.exit 4))
  (.seq (.block 5
  (.seq (.reg [⟨(some 63), none, .p (.iad 6 (.tmp 59) (.tmp 61))⟩, ⟨(some 64), none, .p (.ld (some 6) (.tmp 63))⟩, ⟨(some 8), none, .e (.alc [(.int .i64 0), (.int .i64 0), (.int .i64 0), (.int .i64 0), (.int .i64 0), (.int .i64 0)])⟩, ⟨none, none, .e (.st 6 (.tmp 8) (.tmp 64))⟩])
  (.seq (.reg [⟨(some 65), none, .p (.fad 0 (.tmp 8))⟩, ⟨(some 66), none, .p (.ld none (.tmp 65))⟩, ⟨(some 67), none, .p (.fad 2 (.tmp 8))⟩, ⟨(some 68), none, .p (.ld none (.tmp 67))⟩, ⟨(some 69), none, .p (.bin .eql (.tmp 66) (.tmp 68))⟩])
  (.cond (.tmp 69) (.seq (.reg [⟨(some 2), none, .p (.mov (.const (.int .i64 12)))⟩])
  .ret) .skip))))
  (.reg [⟨(some 70), none, .p (.bin .add (.tmp 61) (.const (.int .i64 1)))⟩, ⟨(some 61), none, .p (.mov (.tmp 70))⟩]))))
def lb21_2 : LC :=
  (.seq (.reg [⟨(some 36), none, .p (.bin .lss (.tmp 35) (.tmp 34))⟩])
  (.seq (.cond (.tmp 36) .skip (.exit 2))
  (.seq (.block 3
  (.seq (.reg [⟨(some 37), none, .p (.iad 6 (.tmp 33) (.tmp 35))⟩, ⟨(some 38), none, .p (.ld (some 6) (.tmp 37))⟩, ⟨(some 6), none, .e (.alc [(.int .i64 0), (.int .i64 0), (.int .i64 0), (.int .i64 0), (.int .i64 0), (.int .i64 0)])⟩, ⟨none, none, .e (.st 6 (.tmp 6) (.tmp 38))⟩])
  (.seq (.reg [⟨(some 39), none, .p (.ld (some 2) (.tmp 1))⟩, ⟨(some 40), none, .p (.fad 0 (.tmp 6))⟩, ⟨(some 41), none, .p (.ld none (.tmp 40))⟩, ⟨(some 42), none, .p (.fad 1 (.tmp 6))⟩, ⟨(some 43), none, .p (.ld none (.tmp 42))⟩, ⟨(some 44), none, .e (.call 41 [(.tmp 39), (.tmp 41), (.tmp 43)])⟩, ⟨(some 45), none, .p (.un .not (.tmp 44))⟩, ⟨(some 46), none, .p (.mov (.tmp 45))⟩, ⟨(some 47), (some (46, false)), .p (.ld (some 2) (.tmp 1))⟩, ⟨(some 48), (some (46, false)), .p (.fad 2 (.tmp 6))⟩, ⟨(some 49), (some (46, false)), .p (.ld none (.tmp 48))⟩, ⟨(some 50), (some (46, false)), .p (.fad 3 (.tmp 6))⟩, ⟨(some 51), (some (46, false)), .p (.ld none (.tmp 50))⟩, ⟨(some 52), (some (46, false)), .e (.call 41 [(.tmp 47), (.tmp 49), (.tmp 51)])⟩, ⟨(some 53), (some (46, false)), .p (.un .not (.tmp 52))⟩, ⟨(some 54), none, .p (.pick (.tmp 46) (.const (.bool true)) (.tmp 53))⟩])
  (.cond (.tmp 54) (.seq (.reg [⟨(some 2), none, .p (.mov (.const (.int .i64 2)))⟩])
  .ret) .skip))))
  (.reg [⟨(some 55), none, .p (.bin .add (.tmp 35) (.const (.int .i64 1)))⟩, ⟨(some 35), none, .p (.mov (.tmp 55))⟩]))))
def lb21_3 : LC :=
  (.seq (.reg [⟨(some 25), none, .p (.bin .lss (.tmp 24) (.tmp 23))⟩])
  (.seq (.cond (.tmp 25) .skip (.exit 0))
  (.seq (.block 1
  (.seq (.reg [⟨(some 26), none, .p (.iad 3 (.tmp 22) (.tmp 24))⟩, ⟨(some 27), none, .p (.ld (some 3) (.tmp 26))⟩, ⟨(some 4), none, .e (.alc [(.string ⟨#[]⟩), (.bool false), (.int .i64 0)])⟩, ⟨none, none, .e (.st 3 (.tmp 4) (.tmp 27))⟩])
  (.seq (.reg [⟨(some 28), none, .p (.ld (some 3) (.tmp 4))⟩, ⟨(some 29), none, .e (.call 40 [(.tmp 28)])⟩, ⟨(some 30), none, .p (.un .not (.tmp 29))⟩])
  (.cond (.tmp 30) (.seq (.reg [⟨(some 2), none, .p (.mov (.const (.int .i64 1)))⟩])
  .ret) .skip))))
  (.reg [⟨(some 31), none, .p (.bin .add (.tmp 24) (.const (.int .i64 1)))⟩, ⟨(some 24), none, .p (.mov (.tmp 31))⟩]))))
def cf21 : LC :=
  (.seq (.reg [⟨(some 1), none, .e (.box (.tmp 0))⟩, ⟨(some 2), none, .p (.mov (.const (.int .i64 0)))⟩])
  (.seq (.seq (.reg [⟨(some 11), none, .p (.fad 0 (.tmp 1))⟩, ⟨(some 12), none, .p (.ld none (.tmp 11))⟩, ⟨(some 13), none, .p (.len 1 (.tmp 12))⟩, ⟨(some 14), none, .p (.bin .gtr (.tmp 13) (.const (.int .i64 16)))⟩, ⟨(some 15), none, .p (.mov (.tmp 14))⟩, ⟨(some 16), (some (15, false)), .p (.fad 1 (.tmp 1))⟩, ⟨(some 17), (some (15, false)), .p (.ld none (.tmp 16))⟩, ⟨(some 18), (some (15, false)), .p (.len 1 (.tmp 17))⟩, ⟨(some 19), (some (15, false)), .p (.bin .gtr (.tmp 18) (.const (.int .i64 32)))⟩, ⟨(some 20), none, .p (.pick (.tmp 15) (.const (.bool true)) (.tmp 19))⟩])
  (.cond (.tmp 20) (.seq (.reg [⟨(some 2), none, .p (.mov (.const (.int .i64 5)))⟩])
  .ret) .skip))
  (.seq (.seq (.reg [⟨(some 21), none, .p (.fad 0 (.tmp 1))⟩, ⟨(some 22), none, .p (.ld none (.tmp 21))⟩, ⟨(some 23), none, .p (.len 1 (.tmp 22))⟩, ⟨(some 24), none, .p (.mov (.const (.int .i64 0)))⟩])
  (.block 0
  (.loop lb21_3)))
  (.seq (.seq (.reg [⟨(some 32), none, .p (.fad 1 (.tmp 1))⟩, ⟨(some 33), none, .p (.ld none (.tmp 32))⟩, ⟨(some 34), none, .p (.len 1 (.tmp 33))⟩, ⟨(some 35), none, .p (.mov (.const (.int .i64 0)))⟩])
  (.block 2
  (.loop lb21_2)))
  (.seq (.seq (.reg [⟨(some 56), none, .p (.ld (some 2) (.tmp 1))⟩, ⟨(some 57), none, .e (.call 42 [(.tmp 56)])⟩])
  (.cond (.tmp 57) (.seq (.reg [⟨(some 2), none, .p (.mov (.const (.int .i64 8)))⟩])
  .ret) .skip))
  (.seq (.seq (.reg [⟨(some 58), none, .p (.fad 1 (.tmp 1))⟩, ⟨(some 59), none, .p (.ld none (.tmp 58))⟩, ⟨(some 60), none, .p (.len 1 (.tmp 59))⟩, ⟨(some 61), none, .p (.mov (.const (.int .i64 0)))⟩])
  (.block 4
  (.loop lb21_1)))
  (.seq (.seq (.reg [⟨(some 71), none, .p (.fad 1 (.tmp 1))⟩, ⟨(some 72), none, .p (.ld none (.tmp 71))⟩, ⟨(some 73), none, .p (.len 1 (.tmp 72))⟩, ⟨(some 74), none, .p (.mov (.const (.int .i64 0)))⟩])
  (.block 6
  (.loop lb21_0)))
  (.seq (.reg [⟨(some 2), none, .p (.mov (.const (.int .i64 0)))⟩])
  .ret))))))))
def rf21 : List RX := [.tmp 2]
set_option maxRecDepth 100000 in
theorem comp21 : cFn Try.prog Try.f21 = some (erase cf21, rf21) := by kernel_rfl
def cf40 : LC :=
  (.seq (.reg [⟨(some 1), none, .e (.box (.tmp 0))⟩, ⟨(some 2), none, .p (.mov (.const (.bool false)))⟩])
  (.seq (.seq (.reg [⟨(some 3), none, .p (.fad 0 (.tmp 1))⟩, ⟨(some 4), none, .p (.ld none (.tmp 3))⟩, ⟨(some 5), none, .e (.call 62 [(.tmp 4)])⟩, ⟨(some 6), none, .p (.un .not (.tmp 5))⟩])
  (.cond (.tmp 6) (.seq (.reg [⟨(some 2), none, .p (.mov (.const (.bool false)))⟩])
  .ret) .skip))
  (.seq (.seq (.reg [⟨(some 7), none, .p (.fad 1 (.tmp 1))⟩, ⟨(some 8), none, .p (.ld none (.tmp 7))⟩])
  (.cond (.tmp 8) (.seq (.reg [⟨(some 9), none, .p (.fad 2 (.tmp 1))⟩, ⟨(some 10), none, .p (.ld none (.tmp 9))⟩, ⟨(some 11), none, .p (.bin .geq (.tmp 10) (.const (.int .i64 1)))⟩, ⟨(some 12), none, .p (.mov (.tmp 11))⟩, ⟨(some 13), (some (12, true)), .p (.fad 2 (.tmp 1))⟩, ⟨(some 14), (some (12, true)), .p (.ld none (.tmp 13))⟩, ⟨(some 15), (some (12, true)), .p (.bin .leq (.tmp 14) (.const (.int .i64 8)))⟩, ⟨(some 16), none, .p (.pick (.tmp 12) (.tmp 15) (.const (.bool false)))⟩, ⟨(some 2), none, .p (.mov (.tmp 16))⟩])
  .ret) .skip))
  (.seq (.reg [⟨(some 17), none, .p (.fad 2 (.tmp 1))⟩, ⟨(some 18), none, .p (.ld none (.tmp 17))⟩, ⟨(some 19), none, .p (.bin .eql (.tmp 18) (.const (.int .i64 1)))⟩, ⟨(some 2), none, .p (.mov (.tmp 19))⟩])
  .ret))))
def rf40 : List RX := [.tmp 2]
set_option maxRecDepth 100000 in
theorem comp40 : cFn Try.prog Try.f40 = some (erase cf40, rf40) := by kernel_rfl
def cf41 : LC :=
  (.seq (.reg [⟨(some 3), none, .e (.box (.tmp 0))⟩, ⟨(some 6), none, .p (.mov (.const (.bool false)))⟩])
  (.seq (.reg [⟨(some 7), none, .p (.mov (.tmp 1))⟩, ⟨(some 8), none, .p (.bin .geq (.tmp 7) (.const (.int .i64 0)))⟩, ⟨(some 9), none, .p (.mov (.tmp 8))⟩, ⟨(some 10), (some (9, true)), .p (.mov (.tmp 1))⟩, ⟨(some 11), (some (9, true)), .p (.fad 0 (.tmp 3))⟩, ⟨(some 12), (some (9, true)), .p (.ld none (.tmp 11))⟩, ⟨(some 13), (some (9, true)), .p (.len 1 (.tmp 12))⟩, ⟨(some 14), (some (9, true)), .p (.bin .lss (.tmp 10) (.tmp 13))⟩, ⟨(some 15), none, .p (.pick (.tmp 9) (.tmp 14) (.const (.bool false)))⟩, ⟨(some 16), none, .p (.mov (.tmp 15))⟩, ⟨(some 17), (some (16, true)), .p (.mov (.tmp 2))⟩, ⟨(some 18), (some (16, true)), .p (.bin .geq (.tmp 17) (.const (.int .i64 0)))⟩, ⟨(some 19), none, .p (.pick (.tmp 16) (.tmp 18) (.const (.bool false)))⟩, ⟨(some 20), none, .p (.mov (.tmp 19))⟩, ⟨(some 21), (some (20, true)), .p (.mov (.tmp 2))⟩, ⟨(some 22), (some (20, true)), .p (.fad 0 (.tmp 3))⟩, ⟨(some 23), (some (20, true)), .p (.ld none (.tmp 22))⟩, ⟨(some 24), (some (20, true)), .p (.mov (.tmp 1))⟩, ⟨(some 25), (some (20, true)), .p (.iad 3 (.tmp 23) (.tmp 24))⟩, ⟨(some 26), (some (20, true)), .p (.fad 2 (.tmp 25))⟩, ⟨(some 27), (some (20, true)), .p (.ld none (.tmp 26))⟩, ⟨(some 28), (some (20, true)), .p (.bin .lss (.tmp 21) (.tmp 27))⟩, ⟨(some 29), none, .p (.pick (.tmp 20) (.tmp 28) (.const (.bool false)))⟩, ⟨(some 6), none, .p (.mov (.tmp 29))⟩])
  .ret))
def rf41 : List RX := [.tmp 6]
set_option maxRecDepth 100000 in
theorem comp41 : cFn Try.prog Try.f41 = some (erase cf41, rf41) := by kernel_rfl
def lb42_0 : LC :=
  (.seq (.reg [⟨(some 47), none, .p (.bin .lss (.tmp 46) (.const (.int .i64 2)))⟩])
  (.seq (.cond (.tmp 47) .skip (.exit 4))
  (.seq (.block 5
  (.seq (.reg [⟨(some 48), none, .p (.idxa 2 2 (some 2) (.tmp 45) (.tmp 46))⟩, ⟨(some 10), none, .e (.alc [(.int .i64 0), (.int .i64 0)])⟩, ⟨none, none, .e (.st 2 (.tmp 10) (.tmp 48))⟩])
  (.seq (.seq (.reg [⟨(some 49), none, .p (.mov (.tmp 6))⟩, ⟨(some 50), none, .p (.ld (some 2) (.tmp 10))⟩, ⟨(some 51), none, .p (.lkp 68 (.bool false) false (.tmp 49) (.tmp 50))⟩])
  (.cond (.tmp 51) (.seq (.reg [⟨(some 2), none, .p (.mov (.const (.bool true)))⟩])
  .ret) .skip))
  (.reg [⟨(some 52), none, .p (.mov (.tmp 6))⟩, ⟨(some 53), none, .p (.ld (some 2) (.tmp 10))⟩, ⟨none, none, .e (.mup 68 (.tmp 52) (.tmp 53) (.const (.bool true)))⟩]))))
  (.reg [⟨(some 54), none, .p (.bin .add (.tmp 46) (.const (.int .i64 1)))⟩, ⟨(some 46), none, .p (.mov (.tmp 54))⟩]))))
def lb42_1 : LC :=
  (.seq (.reg [⟨(some 32), none, .p (.bin .lss (.tmp 31) (.tmp 30))⟩])
  (.seq (.cond (.tmp 32) .skip (.exit 2))
  (.seq (.block 3
  (.seq (.reg [⟨(some 33), none, .p (.iad 6 (.tmp 29) (.tmp 31))⟩, ⟨(some 34), none, .p (.ld (some 6) (.tmp 33))⟩, ⟨(some 8), none, .e (.alc [(.int .i64 0), (.int .i64 0), (.int .i64 0), (.int .i64 0), (.int .i64 0), (.int .i64 0)])⟩, ⟨none, none, .e (.st 6 (.tmp 8) (.tmp 34))⟩])
  (.seq (.reg [⟨(some 35), none, .p (.fad 0 (.tmp 8))⟩, ⟨(some 36), none, .p (.ld none (.tmp 35))⟩, ⟨(some 37), none, .p (.fad 1 (.tmp 8))⟩, ⟨(some 38), none, .p (.ld none (.tmp 37))⟩, ⟨(some 39), none, .p (.bld [(.int .i64 0), (.int .i64 0)] [(0, 1, (.tmp 36)), (1, 1, (.tmp 38))])⟩, ⟨(some 40), none, .p (.fad 2 (.tmp 8))⟩, ⟨(some 41), none, .p (.ld none (.tmp 40))⟩, ⟨(some 42), none, .p (.fad 3 (.tmp 8))⟩, ⟨(some 43), none, .p (.ld none (.tmp 42))⟩, ⟨(some 44), none, .p (.bld [(.int .i64 0), (.int .i64 0)] [(0, 1, (.tmp 41)), (1, 1, (.tmp 43))])⟩, ⟨(some 45), none, .p (.bld [(.int .i64 0), (.int .i64 0), (.int .i64 0), (.int .i64 0)] [(0, 2, (.tmp 39)), (2, 2, (.tmp 44))])⟩, ⟨(some 46), none, .p (.mov (.const (.int .i64 0)))⟩])
  (.block 4
  (.loop lb42_0)))))
  (.reg [⟨(some 55), none, .p (.bin .add (.tmp 31) (.const (.int .i64 1)))⟩, ⟨(some 31), none, .p (.mov (.tmp 55))⟩]))))
def lb42_2 : LC :=
  (.seq (.reg [⟨(some 16), none, .p (.bin .lss (.tmp 15) (.tmp 14))⟩])
  (.seq (.cond (.tmp 16) .skip (.exit 0))
  (.seq (.block 1
  (.seq (.reg [⟨(some 17), none, .p (.iad 3 (.tmp 13) (.tmp 15))⟩, ⟨(some 18), none, .p (.ld (some 3) (.tmp 17))⟩, ⟨(some 5), none, .e (.alc [(.string ⟨#[]⟩), (.bool false), (.int .i64 0)])⟩, ⟨none, none, .e (.st 3 (.tmp 5) (.tmp 18))⟩])
  (.seq (.seq (.reg [⟨(some 19), none, .p (.mov (.tmp 3))⟩, ⟨(some 20), none, .p (.fad 0 (.tmp 5))⟩, ⟨(some 21), none, .p (.ld none (.tmp 20))⟩, ⟨(some 22), none, .p (.lkp 9 (.bool false) false (.tmp 19) (.tmp 21))⟩])
  (.cond (.tmp 22) (.seq (.reg [⟨(some 2), none, .p (.mov (.const (.bool true)))⟩])
  .ret) .skip))
  (.reg [⟨(some 23), none, .p (.mov (.tmp 3))⟩, ⟨(some 24), none, .p (.fad 0 (.tmp 5))⟩, ⟨(some 25), none, .p (.ld none (.tmp 24))⟩, ⟨none, none, .e (.mup 9 (.tmp 23) (.tmp 25) (.const (.bool true)))⟩]))))
  (.reg [⟨(some 26), none, .p (.bin .add (.tmp 15) (.const (.int .i64 1)))⟩, ⟨(some 15), none, .p (.mov (.tmp 26))⟩]))))
def cf42 : LC :=
  (.seq (.reg [⟨(some 1), none, .e (.box (.tmp 0))⟩, ⟨(some 2), none, .p (.mov (.const (.bool false)))⟩])
  (.seq (.reg [⟨(some 11), none, .e (.mkm)⟩, ⟨(some 3), none, .p (.mov (.tmp 11))⟩])
  (.seq (.seq (.reg [⟨(some 12), none, .p (.fad 0 (.tmp 1))⟩, ⟨(some 13), none, .p (.ld none (.tmp 12))⟩, ⟨(some 14), none, .p (.len 1 (.tmp 13))⟩, ⟨(some 15), none, .p (.mov (.const (.int .i64 0)))⟩])
  (.block 0
  (.loop lb42_2)))
  (.seq (.reg [⟨(some 27), none, .e (.mkm)⟩, ⟨(some 6), none, .p (.mov (.tmp 27))⟩])
  (.seq (.seq (.reg [⟨(some 28), none, .p (.fad 1 (.tmp 1))⟩, ⟨(some 29), none, .p (.ld none (.tmp 28))⟩, ⟨(some 30), none, .p (.len 1 (.tmp 29))⟩, ⟨(some 31), none, .p (.mov (.const (.int .i64 0)))⟩])
  (.block 2
  (.loop lb42_1)))
  (.seq (.reg [⟨(some 2), none, .p (.mov (.const (.bool false)))⟩])
  .ret))))))
def rf42 : List RX := [.tmp 2]
set_option maxRecDepth 100000 in
theorem comp42 : cFn Try.prog Try.f42 = some (erase cf42, rf42) := by kernel_rfl
def cf46 : LC :=
  (.seq (.reg [⟨(some 3), none, .e (.box (.tmp 0))⟩, ⟨(some 6), none, .p (.mov (.const (.slice none 0 0)))⟩])
  (.seq (.seq (.reg [⟨(some 7), none, .p (.ld (some 2) (.tmp 3))⟩, ⟨(some 8), none, .p (.mov (.tmp 2))⟩, ⟨(some 9), none, .e (.call 63 [(.tmp 7), (.tmp 8)])⟩, ⟨(some 10), none, .p (.un .not (.tmp 9))⟩, ⟨(some 11), none, .p (.mov (.tmp 10))⟩, ⟨(some 12), (some (11, false)), .p (.mov (.tmp 1))⟩, ⟨(some 13), (some (11, false)), .p (.bin .lss (.tmp 12) (.const (.int .i64 0)))⟩, ⟨(some 14), none, .p (.pick (.tmp 11) (.const (.bool true)) (.tmp 13))⟩, ⟨(some 15), none, .p (.mov (.tmp 14))⟩, ⟨(some 16), (some (15, false)), .p (.mov (.tmp 1))⟩, ⟨(some 17), (some (15, false)), .p (.fad 0 (.tmp 3))⟩, ⟨(some 18), (some (15, false)), .p (.ld none (.tmp 17))⟩, ⟨(some 19), (some (15, false)), .p (.len 1 (.tmp 18))⟩, ⟨(some 20), (some (15, false)), .p (.bin .geq (.tmp 16) (.tmp 19))⟩, ⟨(some 21), none, .p (.pick (.tmp 15) (.const (.bool true)) (.tmp 20))⟩])
  (.cond (.tmp 21) (.seq (.reg [⟨(some 6), none, .p (.mov (.const (.slice none 0 0)))⟩])
  .ret) .skip))
  (.seq (.reg [⟨(some 22), none, .p (.ld (some 2) (.tmp 3))⟩, ⟨(some 23), none, .p (.mov (.tmp 1))⟩, ⟨(some 24), none, .p (.mov (.tmp 2))⟩, ⟨(some 25), none, .e (.call 64 [(.tmp 22), (.tmp 23), (.tmp 24)])⟩, ⟨(some 6), none, .p (.mov (.tmp 25))⟩])
  .ret)))
def rf46 : List RX := [.tmp 6]
set_option maxRecDepth 100000 in
theorem comp46 : cFn Try.prog Try.f46 = some (erase cf46, rf46) := by kernel_rfl
def lb62_0 : LC :=
  (.seq (.reg [⟨(some 17), none, .p (.bin .lss (.tmp 16) (.tmp 15))⟩])
  (.seq (.cond (.tmp 17) .skip (.exit 0))
  (.seq (.block 1
  (.seq (.reg [⟨(some 18), none, .p (.mov (.tmp 16))⟩, ⟨(some 3), none, .p (.mov (.tmp 18))⟩])
  (.seq (.reg [⟨(some 19), none, .p (.mov (.tmp 0))⟩, ⟨(some 20), none, .p (.mov (.tmp 3))⟩, ⟨(some 21), none, .p (.idxs (.tmp 19) (.tmp 20))⟩, ⟨(some 22), none, .p (.bin .geq (.tmp 21) (.const (.int .u8 97)))⟩, ⟨(some 23), none, .p (.mov (.tmp 22))⟩, ⟨(some 24), (some (23, true)), .p (.mov (.tmp 0))⟩, ⟨(some 25), (some (23, true)), .p (.mov (.tmp 3))⟩, ⟨(some 26), (some (23, true)), .p (.idxs (.tmp 24) (.tmp 25))⟩, ⟨(some 27), (some (23, true)), .p (.bin .leq (.tmp 26) (.const (.int .u8 122)))⟩, ⟨(some 28), none, .p (.pick (.tmp 23) (.tmp 27) (.const (.bool false)))⟩, ⟨(some 4), none, .p (.mov (.tmp 28))⟩])
  (.seq (.reg [⟨(some 29), none, .p (.mov (.tmp 0))⟩, ⟨(some 30), none, .p (.mov (.tmp 3))⟩, ⟨(some 31), none, .p (.idxs (.tmp 29) (.tmp 30))⟩, ⟨(some 32), none, .p (.bin .geq (.tmp 31) (.const (.int .u8 48)))⟩, ⟨(some 33), none, .p (.mov (.tmp 32))⟩, ⟨(some 34), (some (33, true)), .p (.mov (.tmp 0))⟩, ⟨(some 35), (some (33, true)), .p (.mov (.tmp 3))⟩, ⟨(some 36), (some (33, true)), .p (.idxs (.tmp 34) (.tmp 35))⟩, ⟨(some 37), (some (33, true)), .p (.bin .leq (.tmp 36) (.const (.int .u8 57)))⟩, ⟨(some 38), none, .p (.pick (.tmp 33) (.tmp 37) (.const (.bool false)))⟩, ⟨(some 5), none, .p (.mov (.tmp 38))⟩])
  (.seq (.reg [⟨(some 39), none, .p (.mov (.tmp 4))⟩, ⟨(some 40), none, .p (.un .not (.tmp 39))⟩, ⟨(some 41), none, .p (.mov (.tmp 40))⟩, ⟨(some 42), (some (41, true)), .p (.mov (.tmp 3))⟩, ⟨(some 43), (some (41, true)), .p (.bin .eql (.tmp 42) (.const (.int .i64 0)))⟩, ⟨(some 44), (some (41, true)), .p (.mov (.tmp 43))⟩, ⟨(some 45), (some (44, false)), .p (.mov (.tmp 5))⟩, ⟨(some 46), (some (44, false)), .p (.un .not (.tmp 45))⟩, ⟨(some 47), (some (41, true)), .p (.pick (.tmp 44) (.const (.bool true)) (.tmp 46))⟩, ⟨(some 48), none, .p (.pick (.tmp 41) (.tmp 47) (.const (.bool false)))⟩])
  (.cond (.tmp 48) (.seq (.reg [⟨(some 2), none, .p (.mov (.const (.bool false)))⟩])
  .ret) .skip))))))
  (.reg [⟨(some 49), none, .p (.bin .add (.tmp 16) (.const (.int .i64 1)))⟩, ⟨(some 16), none, .p (.mov (.tmp 49))⟩]))))
def cf62 : LC :=
  (.seq (.reg [⟨(some 2), none, .p (.mov (.const (.bool false)))⟩])
  (.seq (.seq (.reg [⟨(some 6), none, .p (.mov (.tmp 0))⟩, ⟨(some 7), none, .p (.len 0 (.tmp 6))⟩, ⟨(some 8), none, .p (.bin .lss (.tmp 7) (.const (.int .i64 1)))⟩, ⟨(some 9), none, .p (.mov (.tmp 8))⟩, ⟨(some 10), (some (9, false)), .p (.mov (.tmp 0))⟩, ⟨(some 11), (some (9, false)), .p (.len 0 (.tmp 10))⟩, ⟨(some 12), (some (9, false)), .p (.bin .gtr (.tmp 11) (.const (.int .i64 20)))⟩, ⟨(some 13), none, .p (.pick (.tmp 9) (.const (.bool true)) (.tmp 12))⟩])
  (.cond (.tmp 13) (.seq (.reg [⟨(some 2), none, .p (.mov (.const (.bool false)))⟩])
  .ret) .skip))
  (.seq (.seq (.reg [⟨(some 14), none, .p (.mov (.tmp 0))⟩, ⟨(some 15), none, .p (.len 0 (.tmp 14))⟩, ⟨(some 16), none, .p (.mov (.const (.int .i64 0)))⟩])
  (.block 0
  (.loop lb62_0)))
  (.seq (.reg [⟨(some 2), none, .p (.mov (.const (.bool true)))⟩])
  .ret))))
def rf62 : List RX := [.tmp 2]
set_option maxRecDepth 100000 in
theorem comp62 : cFn Try.prog Try.f62 = some (erase cf62, rf62) := by kernel_rfl
def cf63 : LC :=
  (.seq (.reg [⟨(some 2), none, .e (.box (.tmp 0))⟩, ⟨(some 4), none, .p (.mov (.const (.bool false)))⟩])
  (.seq (.reg [⟨(some 5), none, .p (.ld (some 2) (.tmp 2))⟩, ⟨(some 6), none, .e (.call 21 [(.tmp 5)])⟩, ⟨(some 7), none, .p (.bin .eql (.tmp 6) (.const (.int .i64 0)))⟩, ⟨(some 8), none, .p (.mov (.tmp 7))⟩, ⟨(some 9), (some (8, true)), .p (.mov (.tmp 1))⟩, ⟨(some 10), (some (8, true)), .p (.len 1 (.tmp 9))⟩, ⟨(some 11), (some (8, true)), .p (.fad 1 (.tmp 2))⟩, ⟨(some 12), (some (8, true)), .p (.ld none (.tmp 11))⟩, ⟨(some 13), (some (8, true)), .p (.len 1 (.tmp 12))⟩, ⟨(some 14), (some (8, true)), .p (.bin .eql (.tmp 10) (.tmp 13))⟩, ⟨(some 15), none, .p (.pick (.tmp 8) (.tmp 14) (.const (.bool false)))⟩, ⟨(some 4), none, .p (.mov (.tmp 15))⟩])
  .ret))
def rf63 : List RX := [.tmp 4]
set_option maxRecDepth 100000 in
theorem comp63 : cFn Try.prog Try.f63 = some (erase cf63, rf63) := by kernel_rfl
def lb64_0 : LC :=
  (.seq (.reg [⟨(some 45), none, .p (.bin .lss (.tmp 44) (.tmp 43))⟩])
  (.seq (.cond (.tmp 45) .skip (.exit 4))
  (.seq (.block 5
  (.seq (.reg [⟨(some 46), none, .p (.mov (.tmp 44))⟩, ⟨(some 47), none, .p (.iad 6 (.tmp 42) (.tmp 44))⟩, ⟨(some 48), none, .p (.ld (some 6) (.tmp 47))⟩, ⟨(some 13), none, .e (.alc [(.int .i64 0), (.int .i64 0), (.int .i64 0), (.int .i64 0), (.int .i64 0), (.int .i64 0)])⟩, ⟨(some 12), none, .p (.mov (.tmp 46))⟩, ⟨none, none, .e (.st 6 (.tmp 13) (.tmp 48))⟩])
  (.seq (.seq (.reg [⟨(some 49), none, .p (.mov (.tmp 2))⟩, ⟨(some 50), none, .p (.mov (.tmp 12))⟩, ⟨(some 51), none, .p (.iad 1 (.tmp 49) (.tmp 50))⟩, ⟨(some 52), none, .p (.ld none (.tmp 51))⟩, ⟨(some 53), none, .p (.mov (.tmp 52))⟩, ⟨(some 54), (some (53, true)), .p (.fad 0 (.tmp 13))⟩, ⟨(some 55), (some (53, true)), .p (.ld none (.tmp 54))⟩, ⟨(some 56), (some (53, true)), .p (.ld none (.tmp 10))⟩, ⟨(some 57), (some (53, true)), .p (.bin .eql (.tmp 55) (.tmp 56))⟩, ⟨(some 58), none, .p (.pick (.tmp 53) (.tmp 57) (.const (.bool false)))⟩])
  (.cond (.tmp 58) (.reg [⟨(some 59), none, .p (.mov (.tmp 11))⟩, ⟨(some 60), none, .p (.fad 2 (.tmp 13))⟩, ⟨(some 61), none, .p (.ld none (.tmp 60))⟩, ⟨(some 62), none, .e (.calv (.tmp 59) [(.tmp 61)])⟩]) .skip))
  (.seq (.reg [⟨(some 63), none, .p (.mov (.tmp 2))⟩, ⟨(some 64), none, .p (.mov (.tmp 12))⟩, ⟨(some 65), none, .p (.iad 1 (.tmp 63) (.tmp 64))⟩, ⟨(some 66), none, .p (.ld none (.tmp 65))⟩, ⟨(some 67), none, .p (.mov (.tmp 66))⟩, ⟨(some 68), (some (67, true)), .p (.fad 2 (.tmp 13))⟩, ⟨(some 69), (some (67, true)), .p (.ld none (.tmp 68))⟩, ⟨(some 70), (some (67, true)), .p (.ld none (.tmp 10))⟩, ⟨(some 71), (some (67, true)), .p (.bin .eql (.tmp 69) (.tmp 70))⟩, ⟨(some 72), none, .p (.pick (.tmp 67) (.tmp 71) (.const (.bool false)))⟩])
  (.cond (.tmp 72) (.reg [⟨(some 73), none, .p (.mov (.tmp 11))⟩, ⟨(some 74), none, .p (.fad 0 (.tmp 13))⟩, ⟨(some 75), none, .p (.ld none (.tmp 74))⟩, ⟨(some 76), none, .e (.calv (.tmp 73) [(.tmp 75)])⟩]) .skip)))))
  (.reg [⟨(some 77), none, .p (.bin .add (.tmp 44) (.const (.int .i64 1)))⟩, ⟨(some 44), none, .p (.mov (.tmp 77))⟩]))))
def lb64_1 : LC :=
  (.seq (.seq (.reg [⟨(some 32), none, .p (.ld none (.tmp 9))⟩, ⟨(some 33), none, .p (.len 1 (.tmp 32))⟩, ⟨(some 34), none, .p (.bin .gtr (.tmp 33) (.const (.int .i64 0)))⟩])
  (.cond (.tmp 34) .skip (.exit 2)))
  (.block 3
  (.seq (.reg [⟨(some 35), none, .p (.ld none (.tmp 9))⟩, ⟨(some 36), none, .p (.iad 1 (.tmp 35) (.const (.int .i64 0)))⟩, ⟨(some 37), none, .p (.ld none (.tmp 36))⟩, ⟨(some 10), none, .e (.alc [(.int .i64 0)])⟩, ⟨none, none, .e (.st 1 (.tmp 10) (.tmp 37))⟩])
  (.seq (.reg [⟨(some 38), none, .p (.ld none (.tmp 9))⟩, ⟨(some 39), none, .p (.slc 1 (.tmp 38) (some (.const (.int .i64 1))) none)⟩, ⟨none, none, .e (.st 1 (.tmp 9) (.tmp 39))⟩])
  (.seq (.reg [⟨(some 40), none, .p (.mkf 71 [(.tmp 7), (.tmp 10), (.tmp 9)])⟩, ⟨(some 11), none, .p (.mov (.tmp 40))⟩])
  (.seq (.reg [⟨(some 41), none, .p (.fad 1 (.tmp 3))⟩, ⟨(some 42), none, .p (.ld none (.tmp 41))⟩, ⟨(some 43), none, .p (.len 1 (.tmp 42))⟩, ⟨(some 44), none, .p (.mov (.const (.int .i64 0)))⟩])
  (.block 4
  (.loop lb64_0))))))))
def lb64_2 : LC :=
  (.seq (.reg [⟨(some 21), none, .p (.bin .lss (.tmp 20) (.tmp 19))⟩])
  (.seq (.cond (.tmp 21) .skip (.exit 0))
  (.seq (.block 1
  (.seq (.reg [⟨(some 22), none, .p (.mov (.tmp 20))⟩, ⟨(some 8), none, .p (.mov (.tmp 22))⟩])
  (.reg [⟨(some 23), none, .p (.ld none (.tmp 7))⟩, ⟨(some 24), none, .p (.mov (.tmp 8))⟩, ⟨(some 25), none, .p (.iad 1 (.tmp 23) (.tmp 24))⟩, ⟨none, none, .e (.st 1 (.tmp 25) (.const (.int .i64 (-1))))⟩])))
  (.reg [⟨(some 26), none, .p (.bin .add (.tmp 20) (.const (.int .i64 1)))⟩, ⟨(some 20), none, .p (.mov (.tmp 26))⟩]))))
def cf64 : LC :=
  (.seq (.reg [⟨(some 3), none, .e (.box (.tmp 0))⟩, ⟨(some 6), none, .p (.mov (.const (.slice none 0 0)))⟩])
  (.seq (.reg [⟨(some 14), none, .p (.fad 0 (.tmp 3))⟩, ⟨(some 15), none, .p (.ld none (.tmp 14))⟩, ⟨(some 16), none, .p (.len 1 (.tmp 15))⟩, ⟨(some 17), none, .e (.mks 1 1 [(.int .i64 0)] 8 (.tmp 16) (.tmp 16))⟩, ⟨(some 7), none, .e (.alc [(.slice none 0 0)])⟩, ⟨none, none, .e (.st 1 (.tmp 7) (.tmp 17))⟩])
  (.seq (.seq (.reg [⟨(some 18), none, .p (.ld none (.tmp 7))⟩, ⟨(some 19), none, .p (.len 1 (.tmp 18))⟩, ⟨(some 20), none, .p (.mov (.const (.int .i64 0)))⟩])
  (.block 0
  (.loop lb64_2)))
  (.seq (.reg [⟨(some 27), none, .p (.ld none (.tmp 7))⟩, ⟨(some 28), none, .p (.mov (.tmp 1))⟩, ⟨(some 29), none, .p (.iad 1 (.tmp 27) (.tmp 28))⟩, ⟨none, none, .e (.st 1 (.tmp 29) (.const (.int .i64 0)))⟩])
  (.seq (.reg [⟨(some 30), none, .p (.mov (.tmp 1))⟩, ⟨(some 31), none, .e (.bsl 1 1 1 [(.int .i64 0)] [(0, 1, (.tmp 30))])⟩, ⟨(some 9), none, .e (.alc [(.slice none 0 0)])⟩, ⟨none, none, .e (.st 1 (.tmp 9) (.tmp 31))⟩])
  (.seq (.block 2
  (.loop lb64_1))
  (.seq (.reg [⟨(some 78), none, .p (.ld none (.tmp 7))⟩, ⟨(some 6), none, .p (.mov (.tmp 78))⟩])
  .ret)))))))
def rf64 : List RX := [.tmp 6]
set_option maxRecDepth 100000 in
theorem comp64 : cFn Try.prog Try.f64 = some (erase cf64, rf64) := by kernel_rfl
def cf71 : LC :=
  (.seq (.reg [⟨(some 5), none, .p (.ld none (.tmp 1))⟩, ⟨(some 6), none, .p (.mov (.tmp 0))⟩, ⟨(some 7), none, .p (.iad 1 (.tmp 5) (.tmp 6))⟩, ⟨(some 8), none, .p (.ld none (.tmp 7))⟩, ⟨(some 9), none, .p (.bin .lss (.tmp 8) (.const (.int .i64 0)))⟩])
  (.cond (.tmp 9) (.seq (.dreg [⟨(some 10), none, .p (.ld none (.tmp 1))⟩, ⟨(some 11), none, .p (.mov (.tmp 0))⟩, ⟨(some 12), none, .p (.ld none (.tmp 1))⟩, ⟨(some 13), none, .p (.ld none (.tmp 2))⟩, ⟨(some 14), none, .p (.iad 1 (.tmp 12) (.tmp 13))⟩, ⟨(some 15), none, .p (.ld none (.tmp 14))⟩, ⟨(some 16), none, .p (.bin .add (.tmp 15) (.const (.int .i64 1)))⟩, ⟨(some 17), none, .p (.iad 1 (.tmp 10) (.tmp 11))⟩] [[⟨none, none, .e (.st 1 (.tmp 17) (.tmp 16))⟩]])
  (.reg [⟨(some 18), none, .p (.ld none (.tmp 3))⟩, ⟨(some 19), none, .p (.mov (.tmp 0))⟩, ⟨(some 20), none, .e (.bsl 1 1 1 [(.int .i64 0)] [(0, 1, (.tmp 19))])⟩, ⟨(some 21), none, .e (.app 1 1 8 (.tmp 18) (.tmp 20))⟩, ⟨none, none, .e (.st 1 (.tmp 3) (.tmp 21))⟩])) .skip))
def rf71 : List RX := []
set_option maxRecDepth 100000 in
theorem comp71 : cFn Try.prog Try.f71 = some (erase cf71, rf71) := by kernel_rfl
end Go.Proofs.Yteblljpbnpaplaa
namespace Go.Proofs.Yteblljpbnpaplaa
def cf25 : LC :=
  (.seq (.reg [⟨(some 3), none, .e (.box (.tmp 0))⟩, ⟨(some 6), none, .e (.alc [(.slice none 0 0)])⟩, ⟨(some 7), none, .p (.mov (.const (.int .i64 0)))⟩])
  (.seq (.seq (.reg [⟨(some 8), none, .p (.ld (some 2) (.tmp 3))⟩, ⟨(some 9), none, .e (.call 21 [(.tmp 8)])⟩, ⟨(some 10), none, .p (.bin .neq (.tmp 9) (.const (.int .i64 0)))⟩, ⟨(some 11), none, .p (.mov (.tmp 10))⟩, ⟨(some 12), (some (11, false)), .p (.mov (.tmp 1))⟩, ⟨(some 13), (some (11, false)), .p (.len 1 (.tmp 12))⟩, ⟨(some 14), (some (11, false)), .p (.fad 1 (.tmp 3))⟩, ⟨(some 15), (some (11, false)), .p (.ld none (.tmp 14))⟩, ⟨(some 16), (some (11, false)), .p (.len 1 (.tmp 15))⟩, ⟨(some 17), (some (11, false)), .p (.bin .neq (.tmp 13) (.tmp 16))⟩, ⟨(some 18), none, .p (.pick (.tmp 11) (.const (.bool true)) (.tmp 17))⟩])
  (.cond (.tmp 18) (.seq (.reg [⟨(some 19), none, .p (.bld [(.slice none 0 0)] [])⟩, ⟨none, none, .e (.st 1 (.tmp 6) (.tmp 19))⟩, ⟨(some 7), none, .p (.mov (.const (.int .i64 1)))⟩])
  .ret) .skip))
  (.seq (.seq (.reg [⟨(some 20), none, .p (.mov (.tmp 2))⟩, ⟨(some 21), none, .p (.bin .lss (.tmp 20) (.const (.int .i64 0)))⟩, ⟨(some 22), none, .p (.mov (.tmp 21))⟩, ⟨(some 23), (some (22, false)), .p (.mov (.tmp 2))⟩, ⟨(some 24), (some (22, false)), .p (.fad 0 (.tmp 3))⟩, ⟨(some 25), (some (22, false)), .p (.ld none (.tmp 24))⟩, ⟨(some 26), (some (22, false)), .p (.len 1 (.tmp 25))⟩, ⟨(some 27), (some (22, false)), .p (.bin .geq (.tmp 23) (.tmp 26))⟩, ⟨(some 28), none, .p (.pick (.tmp 22) (.const (.bool true)) (.tmp 27))⟩])
  (.cond (.tmp 28) (.seq (.reg [⟨(some 29), none, .p (.bld [(.slice none 0 0)] [])⟩, ⟨none, none, .e (.st 1 (.tmp 6) (.tmp 29))⟩, ⟨(some 7), none, .p (.mov (.const (.int .i64 2)))⟩])
  .ret) .skip))
  (.seq (.reg [⟨(some 30), none, .p (.ld (some 2) (.tmp 3))⟩, ⟨(some 31), none, .p (.mov (.tmp 2))⟩, ⟨(some 32), none, .p (.mov (.tmp 1))⟩, ⟨(some 33), none, .e (.call 46 [(.tmp 30), (.tmp 31), (.tmp 32)])⟩, ⟨(some 34), none, .p (.bld [(.slice none 0 0)] [(0, 1, (.tmp 33))])⟩, ⟨none, none, .e (.st 1 (.tmp 6) (.tmp 34))⟩, ⟨(some 7), none, .p (.mov (.const (.int .i64 0)))⟩])
  .ret))))
def rf25 : List RX := [.cell 6 (some 1), .tmp 7]
set_option maxRecDepth 100000 in
theorem comp25 : cFn Try.prog Try.f25 = some (erase cf25, rf25) := by kernel_rfl
def cf27 : LC :=
  (.seq (.reg [⟨(some 4), none, .e (.box (.tmp 0))⟩, ⟨(some 5), none, .e (.box (.tmp 1))⟩, ⟨(some 8), none, .p (.mov (.const (.bool false)))⟩, ⟨(some 9), none, .p (.mov (.const (.int .i64 0)))⟩])
  (.seq (.seq (.reg [⟨(some 11), none, .p (.ld (some 2) (.tmp 4))⟩, ⟨(some 12), none, .p (.ld (some 1) (.tmp 5))⟩, ⟨(some 13), none, .e (.call 36 [(.tmp 11), (.tmp 12)])⟩, ⟨(some 14), none, .p (.un .not (.tmp 13))⟩])
  (.cond (.tmp 14) (.seq (.reg [⟨(some 8), none, .p (.mov (.const (.bool false)))⟩, ⟨(some 9), none, .p (.mov (.const (.int .i64 1)))⟩])
  .ret) .skip))
  (.seq (.seq (.reg [⟨(some 15), none, .p (.mov (.tmp 2))⟩, ⟨(some 16), none, .p (.bin .lss (.tmp 15) (.const (.int .i64 0)))⟩, ⟨(some 17), none, .p (.mov (.tmp 16))⟩, ⟨(some 18), (some (17, false)), .p (.mov (.tmp 2))⟩, ⟨(some 19), (some (17, false)), .p (.fad 1 (.tmp 4))⟩, ⟨(some 20), (some (17, false)), .p (.ld none (.tmp 19))⟩, ⟨(some 21), (some (17, false)), .p (.len 1 (.tmp 20))⟩, ⟨(some 22), (some (17, false)), .p (.bin .geq (.tmp 18) (.tmp 21))⟩, ⟨(some 23), none, .p (.pick (.tmp 17) (.const (.bool true)) (.tmp 22))⟩])
  (.cond (.tmp 23) (.seq (.reg [⟨(some 8), none, .p (.mov (.const (.bool false)))⟩, ⟨(some 9), none, .p (.mov (.const (.int .i64 2)))⟩])
  .ret) .skip))
  (.seq (.reg [⟨(some 24), none, .p (.fad 1 (.tmp 4))⟩, ⟨(some 25), none, .p (.ld none (.tmp 24))⟩, ⟨(some 26), none, .p (.mov (.tmp 2))⟩, ⟨(some 27), none, .p (.iad 6 (.tmp 25) (.tmp 26))⟩, ⟨(some 28), none, .p (.ld (some 6) (.tmp 27))⟩, ⟨(some 10), none, .e (.alc [(.int .i64 0), (.int .i64 0), (.int .i64 0), (.int .i64 0), (.int .i64 0), (.int .i64 0)])⟩, ⟨none, none, .e (.st 6 (.tmp 10) (.tmp 28))⟩])
  (.seq (.seq (.reg [⟨(some 29), none, .p (.mov (.tmp 3))⟩, ⟨(some 30), none, .p (.fad 0 (.tmp 10))⟩, ⟨(some 31), none, .p (.ld none (.tmp 30))⟩, ⟨(some 32), none, .p (.bin .neq (.tmp 29) (.tmp 31))⟩, ⟨(some 33), none, .p (.mov (.tmp 32))⟩, ⟨(some 34), (some (33, true)), .p (.mov (.tmp 3))⟩, ⟨(some 35), (some (33, true)), .p (.fad 2 (.tmp 10))⟩, ⟨(some 36), (some (33, true)), .p (.ld none (.tmp 35))⟩, ⟨(some 37), (some (33, true)), .p (.bin .neq (.tmp 34) (.tmp 36))⟩, ⟨(some 38), none, .p (.pick (.tmp 33) (.tmp 37) (.const (.bool false)))⟩])
  (.cond (.tmp 38) (.seq (.reg [⟨(some 8), none, .p (.mov (.const (.bool false)))⟩, ⟨(some 9), none, .p (.mov (.const (.int .i64 2)))⟩])
  .ret) .skip))
  (.seq (.seq (.reg [⟨(some 39), none, .p (.fad 0 (.tmp 5))⟩, ⟨(some 40), none, .p (.ld none (.tmp 39))⟩, ⟨(some 41), none, .p (.fad 0 (.tmp 10))⟩, ⟨(some 42), none, .p (.ld none (.tmp 41))⟩, ⟨(some 43), none, .p (.iad 1 (.tmp 40) (.tmp 42))⟩, ⟨(some 44), none, .p (.ld none (.tmp 43))⟩, ⟨(some 45), none, .p (.bin .lss (.tmp 44) (.const (.int .i64 0)))⟩, ⟨(some 46), none, .p (.mov (.tmp 45))⟩, ⟨(some 47), (some (46, false)), .p (.fad 0 (.tmp 5))⟩, ⟨(some 48), (some (46, false)), .p (.ld none (.tmp 47))⟩, ⟨(some 49), (some (46, false)), .p (.fad 2 (.tmp 10))⟩, ⟨(some 50), (some (46, false)), .p (.ld none (.tmp 49))⟩, ⟨(some 51), (some (46, false)), .p (.iad 1 (.tmp 48) (.tmp 50))⟩, ⟨(some 52), (some (46, false)), .p (.ld none (.tmp 51))⟩, ⟨(some 53), (some (46, false)), .p (.bin .lss (.tmp 52) (.const (.int .i64 0)))⟩, ⟨(some 54), none, .p (.pick (.tmp 46) (.const (.bool true)) (.tmp 53))⟩])
  (.cond (.tmp 54) (.seq (.reg [⟨(some 8), none, .p (.mov (.const (.bool false)))⟩, ⟨(some 9), none, .p (.mov (.const (.int .i64 12)))⟩])
  .ret) .skip))
  (.seq (.reg [⟨(some 55), none, .p (.ld (some 1) (.tmp 5))⟩, ⟨(some 56), none, .p (.fad 0 (.tmp 10))⟩, ⟨(some 57), none, .p (.ld none (.tmp 56))⟩, ⟨(some 58), none, .p (.fad 2 (.tmp 10))⟩, ⟨(some 59), none, .p (.ld none (.tmp 58))⟩, ⟨(some 60), none, .p (.bin .add (.tmp 57) (.tmp 59))⟩, ⟨(some 61), none, .p (.mov (.tmp 3))⟩, ⟨(some 62), none, .p (.bin .sub (.tmp 60) (.tmp 61))⟩, ⟨(some 63), none, .p (.mov (.tmp 3))⟩, ⟨(some 64), none, .e (.call 39 [(.tmp 55), (.tmp 62), (.tmp 63)])⟩, ⟨(some 8), none, .p (.mov (.tmp 64))⟩, ⟨(some 9), none, .p (.mov (.const (.int .i64 0)))⟩])
  .ret)))))))
def rf27 : List RX := [.tmp 8, .tmp 9]
set_option maxRecDepth 100000 in
theorem comp27 : cFn Try.prog Try.f27 = some (erase cf27, rf27) := by kernel_rfl
def lb36_0 : LC :=
  (.seq (.reg [⟨(some 102), none, .p (.bin .lss (.tmp 101) (.tmp 100))⟩])
  (.seq (.cond (.tmp 102) .skip (.exit 5))
  (.seq (.block 6
  (.seq (.reg [⟨(some 103), none, .p (.mov (.tmp 101))⟩, ⟨(some 104), none, .p (.iad 1 (.tmp 99) (.tmp 101))⟩, ⟨(some 105), none, .p (.ld none (.tmp 104))⟩, ⟨(some 11), none, .p (.mov (.tmp 103))⟩, ⟨(some 12), none, .p (.mov (.tmp 105))⟩])
  (.seq (.reg [⟨(some 106), none, .p (.mov (.tmp 12))⟩, ⟨(some 107), none, .p (.bin .gtr (.tmp 106) (.const (.int .i64 0)))⟩, ⟨(some 108), none, .p (.mov (.tmp 107))⟩, ⟨(some 109), (some (108, true)), .p (.mov (.tmp 8))⟩, ⟨(some 110), (some (108, true)), .p (.mov (.tmp 11))⟩, ⟨(some 111), (some (108, true)), .p (.iad 1 (.tmp 109) (.tmp 110))⟩, ⟨(some 112), (some (108, true)), .p (.ld none (.tmp 111))⟩, ⟨(some 113), (some (108, true)), .p (.un .not (.tmp 112))⟩, ⟨(some 114), none, .p (.pick (.tmp 108) (.tmp 113) (.const (.bool false)))⟩])
  (.cond (.tmp 114) (.seq (.reg [⟨(some 4), none, .p (.mov (.const (.bool false)))⟩])
  .ret) .skip))))
  (.reg [⟨(some 115), none, .p (.bin .add (.tmp 101) (.const (.int .i64 1)))⟩, ⟨(some 101), none, .p (.mov (.tmp 115))⟩]))))
def lb36_1 : LC :=
  (.seq (.reg [⟨(some 56), none, .p (.bin .lss (.tmp 55) (.tmp 54))⟩])
  (.seq (.cond (.tmp 56) .skip (.exit 2))
  (.seq (.block 3
  (.seq (.reg [⟨(some 57), none, .p (.iad 6 (.tmp 53) (.tmp 55))⟩, ⟨(some 58), none, .p (.ld (some 6) (.tmp 57))⟩, ⟨(some 10), none, .e (.alc [(.int .i64 0), (.int .i64 0), (.int .i64 0), (.int .i64 0), (.int .i64 0), (.int .i64 0)])⟩, ⟨none, none, .e (.st 6 (.tmp 10) (.tmp 58))⟩])
  (.block 4
  (.seq (.dreg [⟨(some 60), none, .p (.fad 0 (.tmp 3))⟩, ⟨(some 61), none, .p (.ld none (.tmp 60))⟩, ⟨(some 62), none, .p (.fad 0 (.tmp 10))⟩, ⟨(some 63), none, .p (.ld none (.tmp 62))⟩, ⟨(some 64), none, .p (.iad 1 (.tmp 61) (.tmp 63))⟩, ⟨(some 65), none, .p (.ld none (.tmp 64))⟩, ⟨(some 66), none, .p (.fad 0 (.tmp 3))⟩, ⟨(some 67), none, .p (.ld none (.tmp 66))⟩, ⟨(some 68), none, .p (.fad 2 (.tmp 10))⟩, ⟨(some 69), none, .p (.ld none (.tmp 68))⟩, ⟨(some 70), none, .p (.iad 1 (.tmp 67) (.tmp 69))⟩, ⟨(some 71), none, .p (.ld none (.tmp 70))⟩, ⟨(some 72), none, .p (.bin .sub (.tmp 71) (.const (.int .i64 1)))⟩, ⟨(some 73), none, .p (.bin .eql (.tmp 65) (.tmp 72))⟩] [[⟨(some 59), none, .p (.mov (.tmp 73))⟩]])
  (.cond (.tmp 59) (.reg [⟨(some 74), none, .p (.mov (.tmp 8))⟩, ⟨(some 75), none, .p (.fad 2 (.tmp 10))⟩, ⟨(some 76), none, .p (.ld none (.tmp 75))⟩, ⟨(some 77), none, .p (.iad 1 (.tmp 74) (.tmp 76))⟩, ⟨none, none, .e (.st 1 (.tmp 77) (.const (.bool true)))⟩]) (.seq (.dreg [⟨(some 79), none, .p (.fad 0 (.tmp 3))⟩, ⟨(some 80), none, .p (.ld none (.tmp 79))⟩, ⟨(some 81), none, .p (.fad 2 (.tmp 10))⟩, ⟨(some 82), none, .p (.ld none (.tmp 81))⟩, ⟨(some 83), none, .p (.iad 1 (.tmp 80) (.tmp 82))⟩, ⟨(some 84), none, .p (.ld none (.tmp 83))⟩, ⟨(some 85), none, .p (.fad 0 (.tmp 3))⟩, ⟨(some 86), none, .p (.ld none (.tmp 85))⟩, ⟨(some 87), none, .p (.fad 0 (.tmp 10))⟩, ⟨(some 88), none, .p (.ld none (.tmp 87))⟩, ⟨(some 89), none, .p (.iad 1 (.tmp 86) (.tmp 88))⟩, ⟨(some 90), none, .p (.ld none (.tmp 89))⟩, ⟨(some 91), none, .p (.bin .sub (.tmp 90) (.const (.int .i64 1)))⟩, ⟨(some 92), none, .p (.bin .eql (.tmp 84) (.tmp 91))⟩] [[⟨(some 78), none, .p (.mov (.tmp 92))⟩]])
  (.cond (.tmp 78) (.reg [⟨(some 93), none, .p (.mov (.tmp 8))⟩, ⟨(some 94), none, .p (.fad 0 (.tmp 10))⟩, ⟨(some 95), none, .p (.ld none (.tmp 94))⟩, ⟨(some 96), none, .p (.iad 1 (.tmp 93) (.tmp 95))⟩, ⟨none, none, .e (.st 1 (.tmp 96) (.const (.bool true)))⟩]) .skip)))))))
  (.reg [⟨(some 97), none, .p (.bin .add (.tmp 55) (.const (.int .i64 1)))⟩, ⟨(some 55), none, .p (.mov (.tmp 97))⟩]))))
def lb36_2 : LC :=
  (.seq (.reg [⟨(some 29), none, .p (.bin .lss (.tmp 28) (.tmp 27))⟩])
  (.seq (.cond (.tmp 29) .skip (.exit 0))
  (.seq (.block 1
  (.seq (.reg [⟨(some 30), none, .p (.iad 1 (.tmp 26) (.tmp 28))⟩, ⟨(some 31), none, .p (.ld none (.tmp 30))⟩, ⟨(some 7), none, .p (.mov (.tmp 31))⟩])
  (.seq (.seq (.reg [⟨(some 32), none, .p (.mov (.tmp 7))⟩, ⟨(some 33), none, .p (.bin .lss (.tmp 32) (.const (.int .i64 (-1))))⟩, ⟨(some 34), none, .p (.mov (.tmp 33))⟩, ⟨(some 35), (some (34, false)), .p (.mov (.tmp 7))⟩, ⟨(some 36), (some (34, false)), .p (.fad 0 (.tmp 2))⟩, ⟨(some 37), (some (34, false)), .p (.ld none (.tmp 36))⟩, ⟨(some 38), (some (34, false)), .p (.len 1 (.tmp 37))⟩, ⟨(some 39), (some (34, false)), .p (.bin .geq (.tmp 35) (.tmp 38))⟩, ⟨(some 40), none, .p (.pick (.tmp 34) (.const (.bool true)) (.tmp 39))⟩])
  (.cond (.tmp 40) (.seq (.reg [⟨(some 4), none, .p (.mov (.const (.bool false)))⟩])
  .ret) .skip))
  (.seq (.reg [⟨(some 41), none, .p (.mov (.tmp 7))⟩, ⟨(some 42), none, .p (.bin .eql (.tmp 41) (.const (.int .i64 0)))⟩])
  (.cond (.tmp 42) (.reg [⟨(some 43), none, .p (.mov (.tmp 5))⟩, ⟨(some 44), none, .p (.bin .add (.tmp 43) (.const (.int .i64 1)))⟩, ⟨(some 5), none, .p (.mov (.tmp 44))⟩]) .skip)))))
  (.reg [⟨(some 45), none, .p (.bin .add (.tmp 28) (.const (.int .i64 1)))⟩, ⟨(some 28), none, .p (.mov (.tmp 45))⟩]))))
def cf36 : LC :=
  (.seq (.reg [⟨(some 2), none, .e (.box (.tmp 0))⟩, ⟨(some 3), none, .e (.box (.tmp 1))⟩, ⟨(some 4), none, .p (.mov (.const (.bool false)))⟩])
  (.seq (.seq (.reg [⟨(some 13), none, .p (.ld (some 2) (.tmp 2))⟩, ⟨(some 14), none, .e (.call 21 [(.tmp 13)])⟩, ⟨(some 15), none, .p (.bin .neq (.tmp 14) (.const (.int .i64 0)))⟩, ⟨(some 16), none, .p (.mov (.tmp 15))⟩, ⟨(some 17), (some (16, false)), .p (.fad 0 (.tmp 3))⟩, ⟨(some 18), (some (16, false)), .p (.ld none (.tmp 17))⟩, ⟨(some 19), (some (16, false)), .p (.len 1 (.tmp 18))⟩, ⟨(some 20), (some (16, false)), .p (.fad 0 (.tmp 2))⟩, ⟨(some 21), (some (16, false)), .p (.ld none (.tmp 20))⟩, ⟨(some 22), (some (16, false)), .p (.len 1 (.tmp 21))⟩, ⟨(some 23), (some (16, false)), .p (.bin .neq (.tmp 19) (.tmp 22))⟩, ⟨(some 24), none, .p (.pick (.tmp 16) (.const (.bool true)) (.tmp 23))⟩])
  (.cond (.tmp 24) (.seq (.reg [⟨(some 4), none, .p (.mov (.const (.bool false)))⟩])
  .ret) .skip))
  (.seq (.reg [⟨(some 5), none, .p (.mov (.const (.int .i64 0)))⟩])
  (.seq (.seq (.reg [⟨(some 25), none, .p (.fad 0 (.tmp 3))⟩, ⟨(some 26), none, .p (.ld none (.tmp 25))⟩, ⟨(some 27), none, .p (.len 1 (.tmp 26))⟩, ⟨(some 28), none, .p (.mov (.const (.int .i64 0)))⟩])
  (.block 0
  (.loop lb36_2)))
  (.seq (.seq (.reg [⟨(some 46), none, .p (.mov (.tmp 5))⟩, ⟨(some 47), none, .p (.bin .neq (.tmp 46) (.const (.int .i64 1)))⟩])
  (.cond (.tmp 47) (.seq (.reg [⟨(some 4), none, .p (.mov (.const (.bool false)))⟩])
  .ret) .skip))
  (.seq (.reg [⟨(some 48), none, .p (.fad 0 (.tmp 2))⟩, ⟨(some 49), none, .p (.ld none (.tmp 48))⟩, ⟨(some 50), none, .p (.len 1 (.tmp 49))⟩, ⟨(some 51), none, .e (.mks 2 1 [(.bool false)] 1 (.tmp 50) (.tmp 50))⟩, ⟨(some 8), none, .p (.mov (.tmp 51))⟩])
  (.seq (.seq (.reg [⟨(some 52), none, .p (.fad 1 (.tmp 2))⟩, ⟨(some 53), none, .p (.ld none (.tmp 52))⟩, ⟨(some 54), none, .p (.len 1 (.tmp 53))⟩, ⟨(some 55), none, .p (.mov (.const (.int .i64 0)))⟩])
  (.block 2
  (.loop lb36_1)))
  (.seq (.seq (.reg [⟨(some 98), none, .p (.fad 0 (.tmp 3))⟩, ⟨(some 99), none, .p (.ld none (.tmp 98))⟩, ⟨(some 100), none, .p (.len 1 (.tmp 99))⟩, ⟨(some 101), none, .p (.mov (.const (.int .i64 0)))⟩])
  (.block 5
  (.loop lb36_0)))
  (.seq (.reg [⟨(some 4), none, .p (.mov (.const (.bool true)))⟩])
  .ret)))))))))
def rf36 : List RX := [.tmp 4]
set_option maxRecDepth 100000 in
theorem comp36 : cFn Try.prog Try.f36 = some (erase cf36, rf36) := by kernel_rfl
def lb37_0 : LC :=
  (.seq (.reg [⟨(some 37), none, .p (.bin .lss (.tmp 36) (.tmp 35))⟩])
  (.seq (.cond (.tmp 37) .skip (.exit 2))
  (.seq (.block 3
  (.seq (.reg [⟨(some 38), none, .p (.mov (.tmp 36))⟩, ⟨(some 39), none, .p (.iad 1 (.tmp 34) (.tmp 36))⟩, ⟨(some 40), none, .p (.ld none (.tmp 39))⟩, ⟨(some 7), none, .p (.mov (.tmp 38))⟩, ⟨(some 8), none, .p (.mov (.tmp 40))⟩])
  (.reg [⟨(some 41), none, .p (.mov (.tmp 3))⟩, ⟨(some 42), none, .p (.mov (.tmp 8))⟩, ⟨(some 43), none, .p (.mov (.tmp 7))⟩, ⟨(some 44), none, .p (.iad 1 (.tmp 41) (.tmp 42))⟩, ⟨none, none, .e (.st 1 (.tmp 44) (.tmp 43))⟩])))
  (.reg [⟨(some 45), none, .p (.bin .add (.tmp 36) (.const (.int .i64 1)))⟩, ⟨(some 36), none, .p (.mov (.tmp 45))⟩]))))
def lb37_1 : LC :=
  (.seq (.reg [⟨(some 17), none, .p (.bin .lss (.tmp 16) (.tmp 15))⟩])
  (.seq (.cond (.tmp 17) .skip (.exit 0))
  (.seq (.block 1
  (.seq (.reg [⟨(some 18), none, .p (.mov (.tmp 16))⟩, ⟨(some 19), none, .p (.iad 1 (.tmp 14) (.tmp 16))⟩, ⟨(some 20), none, .p (.ld none (.tmp 19))⟩, ⟨(some 5), none, .p (.mov (.tmp 18))⟩, ⟨(some 6), none, .p (.mov (.tmp 20))⟩])
  (.seq (.reg [⟨(some 21), none, .p (.mov (.tmp 3))⟩, ⟨(some 22), none, .p (.mov (.tmp 5))⟩, ⟨(some 23), none, .p (.iad 1 (.tmp 21) (.tmp 22))⟩, ⟨none, none, .e (.st 1 (.tmp 23) (.const (.int .i64 (-1))))⟩])
  (.seq (.reg [⟨(some 24), none, .p (.mov (.tmp 6))⟩, ⟨(some 25), none, .p (.bin .geq (.tmp 24) (.const (.int .i64 0)))⟩])
  (.cond (.tmp 25) (.reg [⟨(some 26), none, .p (.mov (.tmp 4))⟩, ⟨(some 27), none, .p (.mov (.tmp 5))⟩, ⟨(some 28), none, .e (.bsl 1 1 1 [(.int .i64 0)] [(0, 1, (.tmp 27))])⟩, ⟨(some 29), none, .e (.app 1 1 8 (.tmp 26) (.tmp 28))⟩, ⟨(some 4), none, .p (.mov (.tmp 29))⟩]) .skip)))))
  (.reg [⟨(some 30), none, .p (.bin .add (.tmp 16) (.const (.int .i64 1)))⟩, ⟨(some 16), none, .p (.mov (.tmp 30))⟩]))))
def cf37 : LC :=
  (.seq (.reg [⟨(some 1), none, .e (.box (.tmp 0))⟩, ⟨(some 2), none, .p (.mov (.const (.slice none 0 0)))⟩])
  (.seq (.reg [⟨(some 9), none, .p (.fad 0 (.tmp 1))⟩, ⟨(some 10), none, .p (.ld none (.tmp 9))⟩, ⟨(some 11), none, .p (.len 1 (.tmp 10))⟩, ⟨(some 12), none, .e (.mks 1 1 [(.int .i64 0)] 8 (.tmp 11) (.tmp 11))⟩, ⟨(some 3), none, .p (.mov (.tmp 12))⟩])
  (.seq (.reg [⟨(some 4), none, .p (.mov (.const (.slice none 0 0)))⟩])
  (.seq (.seq (.reg [⟨(some 13), none, .p (.fad 0 (.tmp 1))⟩, ⟨(some 14), none, .p (.ld none (.tmp 13))⟩, ⟨(some 15), none, .p (.len 1 (.tmp 14))⟩, ⟨(some 16), none, .p (.mov (.const (.int .i64 0)))⟩])
  (.block 0
  (.loop lb37_1)))
  (.seq (.reg [⟨(some 31), none, .p (.mov (.tmp 4))⟩, ⟨(some 32), none, .p (.mkf 58 [(.tmp 1)])⟩, ⟨(some 33), none, .e (.call 57 [(.tmp 31), (.tmp 32)])⟩])
  (.seq (.seq (.reg [⟨(some 34), none, .p (.mov (.tmp 4))⟩, ⟨(some 35), none, .p (.len 1 (.tmp 34))⟩, ⟨(some 36), none, .p (.mov (.const (.int .i64 0)))⟩])
  (.block 2
  (.loop lb37_0)))
  (.seq (.reg [⟨(some 46), none, .p (.mov (.tmp 3))⟩, ⟨(some 2), none, .p (.mov (.tmp 46))⟩])
  .ret)))))))
def rf37 : List RX := [.tmp 2]
set_option maxRecDepth 100000 in
theorem comp37 : cFn Try.prog Try.f37 = some (erase cf37, rf37) := by kernel_rfl
def cf39 : LC :=
  (.seq (.reg [⟨(some 3), none, .e (.box (.tmp 0))⟩, ⟨(some 6), none, .p (.mov (.const (.bool false)))⟩])
  (.seq (.reg [⟨(some 8), none, .p (.mkf 61 [(.tmp 3)])⟩, ⟨(some 7), none, .p (.mov (.tmp 8))⟩])
  (.seq (.seq (.reg [⟨(some 9), none, .p (.mov (.tmp 7))⟩, ⟨(some 10), none, .p (.mov (.tmp 1))⟩, ⟨(some 11), none, .e (.calv (.tmp 9) [(.tmp 10)])⟩, ⟨(some 12), none, .p (.un .not (.tmp 11))⟩, ⟨(some 13), none, .p (.mov (.tmp 12))⟩, ⟨(some 14), (some (13, false)), .p (.mov (.tmp 7))⟩, ⟨(some 15), (some (13, false)), .p (.mov (.tmp 2))⟩, ⟨(some 16), (some (13, false)), .e (.calv (.tmp 14) [(.tmp 15)])⟩, ⟨(some 17), (some (13, false)), .p (.un .not (.tmp 16))⟩, ⟨(some 18), none, .p (.pick (.tmp 13) (.const (.bool true)) (.tmp 17))⟩])
  (.cond (.tmp 18) (.seq (.reg [⟨(some 6), none, .p (.mov (.const (.bool false)))⟩])
  .ret) .skip))
  (.seq (.dreg [⟨(some 19), none, .p (.fad 0 (.tmp 3))⟩, ⟨(some 20), none, .p (.ld none (.tmp 19))⟩, ⟨(some 21), none, .p (.mov (.tmp 1))⟩, ⟨(some 22), none, .p (.iad 1 (.tmp 20) (.tmp 21))⟩, ⟨(some 23), none, .p (.ld none (.tmp 22))⟩, ⟨(some 24), none, .p (.fad 0 (.tmp 3))⟩, ⟨(some 25), none, .p (.ld none (.tmp 24))⟩, ⟨(some 26), none, .p (.mov (.tmp 2))⟩, ⟨(some 27), none, .p (.iad 1 (.tmp 25) (.tmp 26))⟩, ⟨(some 28), none, .p (.ld none (.tmp 27))⟩, ⟨(some 29), none, .e (.call 60 [(.tmp 23), (.tmp 28)])⟩, ⟨(some 30), none, .p (.mov (.tmp 1))⟩, ⟨(some 31), none, .p (.mov (.tmp 2))⟩, ⟨(some 32), none, .e (.call 60 [(.tmp 30), (.tmp 31)])⟩, ⟨(some 33), none, .e (.bsr 2 1 [(.int .i64 0)] [(0, 1, (.tmp 29)), (1, 1, (.tmp 32))])⟩, ⟨(some 34), none, .e (.call 59 [(.tmp 33)])⟩, ⟨(some 35), none, .p (.bin .lss (.tmp 34) (.const (.int .i64 0)))⟩] [[⟨(some 6), none, .p (.mov (.tmp 35))⟩]])
  .ret))))
def rf39 : List RX := [.tmp 6]
set_option maxRecDepth 100000 in
theorem comp39 : cFn Try.prog Try.f39 = some (erase cf39, rf39) := by kernel_rfl
def cf58 : LC :=
  (.seq (.reg [⟨(some 5), none, .p (.mov (.const (.int .i64 0)))⟩])
  (.seq (.dreg [⟨(some 6), none, .p (.fad 0 (.tmp 2))⟩, ⟨(some 7), none, .p (.ld none (.tmp 6))⟩, ⟨(some 8), none, .p (.mov (.tmp 0))⟩, ⟨(some 9), none, .p (.iad 1 (.tmp 7) (.tmp 8))⟩, ⟨(some 10), none, .p (.ld none (.tmp 9))⟩, ⟨(some 11), none, .p (.fad 0 (.tmp 2))⟩, ⟨(some 12), none, .p (.ld none (.tmp 11))⟩, ⟨(some 13), none, .p (.mov (.tmp 1))⟩, ⟨(some 14), none, .p (.iad 1 (.tmp 12) (.tmp 13))⟩, ⟨(some 15), none, .p (.ld none (.tmp 14))⟩, ⟨(some 16), none, .e (.call 60 [(.tmp 10), (.tmp 15)])⟩, ⟨(some 17), none, .p (.mov (.tmp 0))⟩, ⟨(some 18), none, .p (.mov (.tmp 1))⟩, ⟨(some 19), none, .e (.call 60 [(.tmp 17), (.tmp 18)])⟩, ⟨(some 20), none, .e (.bsr 2 1 [(.int .i64 0)] [(0, 1, (.tmp 16)), (1, 1, (.tmp 19))])⟩, ⟨(some 21), none, .e (.call 59 [(.tmp 20)])⟩] [[⟨(some 5), none, .p (.mov (.tmp 21))⟩]])
  .ret))
def rf58 : List RX := [.tmp 5]
set_option maxRecDepth 100000 in
theorem comp58 : cFn Try.prog Try.f58 = some (erase cf58, rf58) := by kernel_rfl
def cf61 : LC :=
  (.seq (.reg [⟨(some 3), none, .p (.mov (.const (.bool false)))⟩])
  (.seq (.reg [⟨(some 4), none, .p (.mov (.tmp 0))⟩, ⟨(some 5), none, .p (.bin .geq (.tmp 4) (.const (.int .i64 0)))⟩, ⟨(some 6), none, .p (.mov (.tmp 5))⟩, ⟨(some 7), (some (6, true)), .p (.mov (.tmp 0))⟩, ⟨(some 8), (some (6, true)), .p (.fad 0 (.tmp 1))⟩, ⟨(some 9), (some (6, true)), .p (.ld none (.tmp 8))⟩, ⟨(some 10), (some (6, true)), .p (.len 1 (.tmp 9))⟩, ⟨(some 11), (some (6, true)), .p (.bin .lss (.tmp 7) (.tmp 10))⟩, ⟨(some 12), none, .p (.pick (.tmp 6) (.tmp 11) (.const (.bool false)))⟩, ⟨(some 13), none, .p (.mov (.tmp 12))⟩, ⟨(some 14), (some (13, true)), .p (.fad 0 (.tmp 1))⟩, ⟨(some 15), (some (13, true)), .p (.ld none (.tmp 14))⟩, ⟨(some 16), (some (13, true)), .p (.mov (.tmp 0))⟩, ⟨(some 17), (some (13, true)), .p (.iad 1 (.tmp 15) (.tmp 16))⟩, ⟨(some 18), (some (13, true)), .p (.ld none (.tmp 17))⟩, ⟨(some 19), (some (13, true)), .p (.bin .geq (.tmp 18) (.const (.int .i64 0)))⟩, ⟨(some 20), none, .p (.pick (.tmp 13) (.tmp 19) (.const (.bool false)))⟩, ⟨(some 3), none, .p (.mov (.tmp 20))⟩])
  .ret))
def rf61 : List RX := [.tmp 3]
set_option maxRecDepth 100000 in
theorem comp61 : cFn Try.prog Try.f61 = some (erase cf61, rf61) := by kernel_rfl
end Go.Proofs.Yteblljpbnpaplaa
namespace Go.Proofs.Yteblljpbnpaplaa
end Go.Proofs.Yteblljpbnpaplaa
namespace Go.Proofs.Yteblljpbnpaplaa
def cf48 : LC :=
  (.seq (.reg [⟨(some 1), none, .e (.box (.tmp 0))⟩, ⟨(some 2), none, .p (.mov (.const .nilFunc))⟩])
  (.seq (.reg [⟨(some 3), none, .p (.mkf 67 [(.tmp 1)])⟩, ⟨(some 2), none, .p (.mov (.tmp 3))⟩])
  .ret))
def rf48 : List RX := [.tmp 2]
set_option maxRecDepth 100000 in
theorem comp48 : cFn Try.prog Try.f48 = some (erase cf48, rf48) := by kernel_rfl
end Go.Proofs.Yteblljpbnpaplaa
namespace Go.Proofs.Yteblljpbnpaplaa
end Go.Proofs.Yteblljpbnpaplaa
namespace Go.Proofs.Yteblljpbnpaplaa
def lb29_0 : LC :=
  (.seq (.reg [⟨(some 14), none, .p (.bin .lss (.tmp 13) (.tmp 12))⟩])
  (.seq (.cond (.tmp 14) .skip (.exit 0))
  (.seq (.block 1
  (.seq (.reg [⟨(some 15), none, .p (.mov (.tmp 13))⟩, ⟨(some 5), none, .p (.mov (.tmp 15))⟩])
  (.seq (.dreg [⟨(some 16), none, .p (.mov (.tmp 0))⟩, ⟨(some 17), none, .p (.mov (.tmp 5))⟩, ⟨(some 18), none, .p (.iad 1 (.tmp 16) (.tmp 17))⟩, ⟨(some 19), none, .p (.ld none (.tmp 18))⟩, ⟨(some 20), none, .p (.mov (.tmp 1))⟩, ⟨(some 21), none, .p (.mov (.tmp 5))⟩, ⟨(some 22), none, .p (.iad 1 (.tmp 20) (.tmp 21))⟩, ⟨(some 23), none, .p (.ld none (.tmp 22))⟩] [[⟨(some 24), none, .p (.bin .neq (.tmp 19) (.tmp 23))⟩]])
  (.cond (.tmp 24) (.seq (.reg [⟨(some 4), none, .p (.mov (.const (.bool false)))⟩])
  .ret) .skip))))
  (.reg [⟨(some 25), none, .p (.bin .add (.tmp 13) (.const (.int .i64 1)))⟩, ⟨(some 13), none, .p (.mov (.tmp 25))⟩]))))
def cf29 : LC :=
  (.seq (.reg [⟨(some 4), none, .p (.mov (.const (.bool false)))⟩])
  (.seq (.seq (.reg [⟨(some 6), none, .p (.mov (.tmp 0))⟩, ⟨(some 7), none, .p (.len 1 (.tmp 6))⟩, ⟨(some 8), none, .p (.mov (.tmp 1))⟩, ⟨(some 9), none, .p (.len 1 (.tmp 8))⟩, ⟨(some 10), none, .p (.bin .neq (.tmp 7) (.tmp 9))⟩])
  (.cond (.tmp 10) (.seq (.reg [⟨(some 4), none, .p (.mov (.const (.bool false)))⟩])
  .ret) .skip))
  (.seq (.seq (.reg [⟨(some 11), none, .p (.mov (.tmp 0))⟩, ⟨(some 12), none, .p (.len 1 (.tmp 11))⟩, ⟨(some 13), none, .p (.mov (.const (.int .i64 0)))⟩])
  (.block 0
  (.loop lb29_0)))
  (.seq (.reg [⟨(some 4), none, .p (.mov (.const (.bool true)))⟩])
  .ret))))
def rf29 : List RX := [.tmp 4]
set_option maxRecDepth 100000 in
theorem comp29 : cFn Try.prog Try.f29 = some (erase cf29, rf29) := by kernel_rfl
def lb51_0 : LC :=
  (.seq (.reg [⟨(some 9), none, .p (.bin .lss (.tmp 8) (.tmp 7))⟩])
  (.seq (.cond (.tmp 9) .skip (.exit 0))
  (.seq (.block 1
  (.seq (.reg [⟨(some 10), none, .p (.mov (.tmp 8))⟩, ⟨(some 5), none, .p (.mov (.tmp 10))⟩])
  (.seq (.reg [⟨(some 11), none, .p (.mov (.tmp 1))⟩, ⟨(some 12), none, .p (.mov (.tmp 0))⟩, ⟨(some 13), none, .p (.mov (.tmp 5))⟩, ⟨(some 14), none, .p (.iad 1 (.tmp 12) (.tmp 13))⟩, ⟨(some 15), none, .p (.ld none (.tmp 14))⟩, ⟨(some 16), none, .e (.calv (.tmp 11) [(.tmp 15)])⟩])
  (.cond (.tmp 16) (.seq (.reg [⟨(some 17), none, .p (.mov (.tmp 5))⟩, ⟨(some 4), none, .p (.mov (.tmp 17))⟩])
  .ret) .skip))))
  (.reg [⟨(some 18), none, .p (.bin .add (.tmp 8) (.const (.int .i64 1)))⟩, ⟨(some 8), none, .p (.mov (.tmp 18))⟩]))))
def cf51 : LC :=
  (.seq (.reg [⟨(some 4), none, .p (.mov (.const (.int .i64 0)))⟩])
  (.seq (.seq (.reg [⟨(some 6), none, .p (.mov (.tmp 0))⟩, ⟨(some 7), none, .p (.len 1 (.tmp 6))⟩, ⟨(some 8), none, .p (.mov (.const (.int .i64 0)))⟩])
  (.block 0
  (.loop lb51_0)))
  (.seq (.reg [⟨(some 4), none, .p (.mov (.const (.int .i64 (-1))))⟩])
  .ret)))
def rf51 : List RX := [.tmp 4]
set_option maxRecDepth 100000 in
theorem comp51 : cFn Try.prog Try.f51 = some (erase cf51, rf51) := by kernel_rfl
def cf54 : LC :=
  (.seq (.reg [⟨(some 2), none, .p (.mov (.const (.slice none 0 0)))⟩])
  (.seq (.seq (.reg [⟨(some 3), none, .p (.mov (.tmp 0))⟩, ⟨(some 4), none, .p (.nile (.tmp 3))⟩])
  (.cond (.tmp 4) (.seq (.reg [⟨(some 2), none, .p (.mov (.const (.slice none 0 0)))⟩])
  .ret) .skip))
  (.seq (.reg [⟨(some 5), none, .e (.bsl 1 0 1 [(.int .i64 0)] [])⟩, ⟨(some 6), none, .p (.mov (.tmp 0))⟩, ⟨(some 7), none, .e (.app 1 1 8 (.tmp 5) (.tmp 6))⟩, ⟨(some 2), none, .p (.mov (.tmp 7))⟩])
  .ret)))
def rf54 : List RX := [.tmp 2]
set_option maxRecDepth 100000 in
theorem comp54 : cFn Try.prog Try.f54 = some (erase cf54, rf54) := by kernel_rfl
def lb55_0 : LC :=
  (.seq (.reg [⟨(some 9), none, .p (.bin .lss (.tmp 8) (.tmp 7))⟩])
  (.seq (.cond (.tmp 9) .skip (.exit 0))
  (.seq (.block 1
  (.seq (.reg [⟨(some 10), none, .p (.mov (.tmp 8))⟩, ⟨(some 5), none, .p (.mov (.tmp 10))⟩])
  (.seq (.reg [⟨(some 11), none, .p (.mov (.tmp 1))⟩, ⟨(some 12), none, .p (.mov (.tmp 0))⟩, ⟨(some 13), none, .p (.mov (.tmp 5))⟩, ⟨(some 14), none, .p (.iad 1 (.tmp 12) (.tmp 13))⟩, ⟨(some 15), none, .p (.ld none (.tmp 14))⟩, ⟨(some 16), none, .p (.bin .eql (.tmp 11) (.tmp 15))⟩])
  (.cond (.tmp 16) (.seq (.reg [⟨(some 17), none, .p (.mov (.tmp 5))⟩, ⟨(some 4), none, .p (.mov (.tmp 17))⟩])
  .ret) .skip))))
  (.reg [⟨(some 18), none, .p (.bin .add (.tmp 8) (.const (.int .i64 1)))⟩, ⟨(some 8), none, .p (.mov (.tmp 18))⟩]))))
def cf55 : LC :=
  (.seq (.reg [⟨(some 4), none, .p (.mov (.const (.int .i64 0)))⟩])
  (.seq (.seq (.reg [⟨(some 6), none, .p (.mov (.tmp 0))⟩, ⟨(some 7), none, .p (.len 1 (.tmp 6))⟩, ⟨(some 8), none, .p (.mov (.const (.int .i64 0)))⟩])
  (.block 0
  (.loop lb55_0)))
  (.seq (.reg [⟨(some 4), none, .p (.mov (.const (.int .i64 (-1))))⟩])
  .ret)))
def rf55 : List RX := [.tmp 4]
set_option maxRecDepth 100000 in
theorem comp55 : cFn Try.prog Try.f55 = some (erase cf55, rf55) := by kernel_rfl
def lb56_0 : LC :=
  (.seq (.seq (.reg [⟨(some 7), none, .p (.mov (.tmp 2))⟩, ⟨(some 8), none, .p (.mov (.tmp 3))⟩, ⟨(some 9), none, .p (.bin .lss (.tmp 7) (.tmp 8))⟩])
  (.cond (.tmp 9) .skip (.exit 0)))
  (.seq (.block 1
  (.dreg [⟨(some 14), none, .p (.mov (.tmp 0))⟩, ⟨(some 15), none, .p (.mov (.tmp 2))⟩, ⟨(some 16), none, .p (.mov (.tmp 0))⟩, ⟨(some 17), none, .p (.mov (.tmp 3))⟩, ⟨(some 18), none, .p (.mov (.tmp 0))⟩, ⟨(some 19), none, .p (.mov (.tmp 3))⟩, ⟨(some 20), none, .p (.iad 1 (.tmp 18) (.tmp 19))⟩, ⟨(some 21), none, .p (.ld none (.tmp 20))⟩, ⟨(some 22), none, .p (.mov (.tmp 0))⟩, ⟨(some 23), none, .p (.mov (.tmp 2))⟩, ⟨(some 24), none, .p (.iad 1 (.tmp 22) (.tmp 23))⟩, ⟨(some 25), none, .p (.ld none (.tmp 24))⟩, ⟨(some 26), none, .p (.iad 1 (.tmp 14) (.tmp 15))⟩] [[⟨none, none, .e (.st 1 (.tmp 26) (.tmp 21))⟩, ⟨(some 27), none, .p (.iad 1 (.tmp 16) (.tmp 17))⟩, ⟨none, none, .e (.st 1 (.tmp 27) (.tmp 25))⟩]]))
  (.reg [⟨(some 10), none, .p (.mov (.tmp 2))⟩, ⟨(some 11), none, .p (.bin .add (.tmp 10) (.const (.int .i64 1)))⟩, ⟨(some 12), none, .p (.mov (.tmp 3))⟩, ⟨(some 13), none, .p (.bin .sub (.tmp 12) (.const (.int .i64 1)))⟩, ⟨(some 2), none, .p (.mov (.tmp 11))⟩, ⟨(some 3), none, .p (.mov (.tmp 13))⟩])))
def cf56 : LC :=
  (.seq (.reg [⟨(some 4), none, .p (.mov (.tmp 0))⟩, ⟨(some 5), none, .p (.len 1 (.tmp 4))⟩, ⟨(some 6), none, .p (.bin .sub (.tmp 5) (.const (.int .i64 1)))⟩, ⟨(some 2), none, .p (.mov (.const (.int .i64 0)))⟩, ⟨(some 3), none, .p (.mov (.tmp 6))⟩])
  (.block 0
  (.loop lb56_0)))
def rf56 : List RX := []
set_option maxRecDepth 100000 in
theorem comp56 : cFn Try.prog Try.f56 = some (erase cf56, rf56) := by kernel_rfl
end Go.Proofs.Yteblljpbnpaplaa
namespace Go.Proofs.Yteblljpbnpaplaa
end Go.Proofs.Yteblljpbnpaplaa
namespace Go.Proofs.Yteblljpbnpaplaa
end Go.Proofs.Yteblljpbnpaplaa

