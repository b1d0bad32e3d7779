/- The functions of a package in the lifted layer's own small language; The functions of a package in the lifted layer's own small language; The functions of a package in the lifted layer's own small language; The functions of a package in the lifted layer's own small language; The functions of a package in the lifted layer's own small language; The functions of a package in the lifted layer's own small language; The functions of a package in the lifted layer's own small language; The functions of a package in the lifted layer's own small language; The functions of a package in the lifted layer's own small language; The functions of a package in the lifted layer's own small language; The functions of a package in the lifted layer's own small language; The functions of a package in the lifted layer's own small language; The functions of a package in the lifted layer's own small language; All functions of the seat. Conditions: none. -/
import Derived.Test.YtchpncmmlhfemaaDoorMC
import Derived.KernelRfl
namespace Go.Proofs.YtchpncmmlhfemaaDoor
/-- fairlink fairlinklaw14.GraphValid -/
def cf3 : LC :=
  (.seq (.reg [⟨(some 1), none, .e (.box (.tmp 0))⟩, ⟨(some 2), none, .p (.mov (.const (.bool false)))⟩])
  (.seq (.seq (.reg [⟨(some 3), none, .e (.call 11 [])⟩, ⟨(some 4), none, .p (.un .not (.tmp 3))⟩])
  (.cond (.tmp 4) (.seq (.reg [⟨(some 2), none, .p (.mov (.const (.bool false)))⟩])
  .ret) .skip))
  (.seq (.dreg [⟨(some 5), none, .p (.ld (some 2) (.tmp 1))⟩, ⟨(some 6), none, .e (.call 12 [(.tmp 5)])⟩, ⟨(some 7), none, .p (.mov (.tmp 6))⟩, ⟨(some 8), (some (7, false)), .p (.ld (some 2) (.tmp 1))⟩, ⟨(some 9), (some (7, false)), .e (.call 13 [(.tmp 8)])⟩, ⟨(some 10), (some (7, false)), .p (.ld (some 2) (.tmp 1))⟩, ⟨(some 11), (some (7, false)), .e (.call 14 [(.tmp 10)])⟩, ⟨(some 12), (some (7, false)), .p (.bin .eql (.tmp 9) (.tmp 11))⟩, ⟨(some 13), none, .p (.pick (.tmp 7) (.const (.bool true)) (.tmp 12))⟩] [[⟨(some 2), none, .p (.mov (.tmp 13))⟩]])
  .ret)))
def rf3 : List RX := [.tmp 2]
set_option maxRecDepth 100000 in
theorem comp3 : cFn Tryd.prog Tryd.f3 = some (erase cf3, rf3) := by kernel_rfl
def lb4_0 : LC :=
  (.seq (.reg [⟨(some 251), none, .p (.bin .lss (.tmp 250) (.tmp 249))⟩])
  (.seq (.cond (.tmp 251) .skip (.exit 16))
  (.seq (.block 17
  (.seq (.reg [⟨(some 252), none, .p (.mov (.tmp 250))⟩, ⟨(some 23), none, .p (.mov (.tmp 252))⟩])
  (.seq (.dreg [⟨(some 253), none, .p (.mov (.tmp 16))⟩, ⟨(some 254), none, .p (.mov (.tmp 22))⟩, ⟨(some 255), none, .p (.iad 1 (.tmp 253) (.tmp 254))⟩, ⟨(some 256), none, .p (.ld none (.tmp 255))⟩, ⟨(some 257), none, .p (.mov (.tmp 16))⟩, ⟨(some 258), none, .p (.mov (.tmp 23))⟩, ⟨(some 259), none, .p (.iad 1 (.tmp 257) (.tmp 258))⟩, ⟨(some 260), none, .p (.ld none (.tmp 259))⟩, ⟨(some 261), none, .p (.bin .eql (.tmp 256) (.tmp 260))⟩, ⟨(some 262), none, .p (.mov (.tmp 6))⟩, ⟨(some 263), none, .p (.mov (.tmp 22))⟩, ⟨(some 264), none, .p (.iad 1 (.tmp 262) (.tmp 263))⟩, ⟨(some 265), none, .p (.ld none (.tmp 264))⟩, ⟨(some 266), none, .p (.mov (.tmp 23))⟩, ⟨(some 267), none, .p (.iad 1 (.tmp 265) (.tmp 266))⟩, ⟨(some 268), none, .p (.ld none (.tmp 267))⟩, ⟨(some 269), none, .p (.bin .geq (.tmp 268) (.const (.int .i64 0)))⟩] [[⟨(some 270), none, .p (.binb true (.tmp 261) (.tmp 269))⟩]])
  (.cond (.tmp 270) (.seq (.reg [⟨(some 4), none, .p (.mov (.const (.bool false)))⟩])
  .ret) .skip))))
  (.reg [⟨(some 271), none, .p (.bin .add (.tmp 250) (.const (.int .i64 1)))⟩, ⟨(some 250), none, .p (.mov (.tmp 271))⟩]))))
def lb4_1 : LC :=
  (.seq (.reg [⟨(some 247), none, .p (.bin .lss (.tmp 246) (.tmp 245))⟩])
  (.seq (.cond (.tmp 247) .skip (.exit 14))
  (.seq (.block 15
  (.seq (.reg [⟨(some 248), none, .p (.mov (.tmp 246))⟩, ⟨(some 22), none, .p (.mov (.tmp 248))⟩])
  (.seq (.reg [⟨(some 249), none, .p (.mov (.tmp 5))⟩, ⟨(some 250), none, .p (.mov (.const (.int .i64 0)))⟩])
  (.block 16
  (.loop lb4_0)))))
  (.reg [⟨(some 272), none, .p (.bin .add (.tmp 246) (.const (.int .i64 1)))⟩, ⟨(some 246), none, .p (.mov (.tmp 272))⟩]))))
def lb4_2 : LC :=
  (.seq (.reg [⟨(some 227), none, .p (.bin .lss (.tmp 226) (.tmp 225))⟩])
  (.seq (.cond (.tmp 227) .skip (.exit 12))
  (.seq (.block 13
  (.seq (.reg [⟨(some 228), none, .p (.iad 1 (.tmp 224) (.tmp 226))⟩, ⟨(some 229), none, .p (.ld none (.tmp 228))⟩, ⟨(some 21), none, .p (.mov (.tmp 229))⟩])
  (.seq (.seq (.reg [⟨(some 230), none, .p (.mov (.tmp 21))⟩, ⟨(some 231), none, .p (.bin .lss (.tmp 230) (.const (.int .i64 0)))⟩, ⟨(some 232), none, .p (.mov (.tmp 231))⟩, ⟨(some 233), (some (232, false)), .p (.mov (.tmp 21))⟩, ⟨(some 234), (some (232, false)), .p (.mov (.tmp 5))⟩, ⟨(some 235), (some (232, false)), .p (.bin .geq (.tmp 233) (.tmp 234))⟩, ⟨(some 236), none, .p (.pick (.tmp 232) (.const (.bool true)) (.tmp 235))⟩])
  (.cond (.tmp 236) (.seq (.reg [⟨(some 4), none, .p (.mov (.const (.bool false)))⟩])
  .ret) .skip))
  (.seq (.reg [⟨(some 237), none, .p (.mov (.tmp 16))⟩, ⟨(some 238), none, .p (.mov (.tmp 21))⟩, ⟨(some 239), none, .p (.mov (.tmp 18))⟩, ⟨(some 240), none, .p (.iad 1 (.tmp 237) (.tmp 238))⟩, ⟨none, none, .e (.st 1 (.tmp 240) (.tmp 239))⟩])
  (.reg [⟨(some 241), none, .p (.mov (.tmp 17))⟩, ⟨(some 242), none, .p (.bin .add (.tmp 241) (.const (.int .i64 1)))⟩, ⟨(some 17), none, .p (.mov (.tmp 242))⟩])))))
  (.reg [⟨(some 243), none, .p (.bin .add (.tmp 226) (.const (.int .i64 1)))⟩, ⟨(some 226), none, .p (.mov (.tmp 243))⟩]))))
def lb4_3 : LC :=
  (.seq (.reg [⟨(some 220), none, .p (.bin .lss (.tmp 219) (.tmp 218))⟩])
  (.seq (.cond (.tmp 220) .skip (.exit 10))
  (.seq (.block 11
  (.seq (.reg [⟨(some 221), none, .p (.mov (.tmp 219))⟩, ⟨(some 222), none, .p (.iad 1 (.tmp 217) (.tmp 219))⟩, ⟨(some 223), none, .p (.ld none (.tmp 222))⟩, ⟨(some 18), none, .p (.mov (.tmp 221))⟩, ⟨(some 19), none, .p (.mov (.tmp 223))⟩])
  (.seq (.reg [⟨(some 224), none, .p (.mov (.tmp 19))⟩, ⟨(some 225), none, .p (.len 1 (.tmp 224))⟩, ⟨(some 226), none, .p (.mov (.const (.int .i64 0)))⟩])
  (.block 12
  (.loop lb4_2)))))
  (.reg [⟨(some 244), none, .p (.bin .add (.tmp 219) (.const (.int .i64 1)))⟩, ⟨(some 219), none, .p (.mov (.tmp 244))⟩]))))
def lb4_4 : LC :=
  (.seq (.reg [⟨(some 168), none, .p (.bin .lss (.tmp 167) (.tmp 166))⟩])
  (.seq (.cond (.tmp 168) .skip (.exit 8))
  (.seq (.block 9
  (.seq (.reg [⟨(some 169), none, .p (.mov (.tmp 167))⟩, ⟨(some 170), none, .p (.iad 6 (.tmp 165) (.tmp 167))⟩, ⟨(some 171), none, .p (.ld (some 6) (.tmp 170))⟩, ⟨(some 13), none, .e (.alc [(.int .i64 0), (.int .i64 0), (.int .i64 0), (.int .i64 0), (.int .i64 0), (.int .i64 0)])⟩, ⟨(some 12), none, .p (.mov (.tmp 169))⟩, ⟨none, none, .e (.st 6 (.tmp 13) (.tmp 171))⟩])
  (.seq (.dreg [⟨(some 172), none, .p (.mov (.tmp 6))⟩, ⟨(some 173), none, .p (.mov (.tmp 9))⟩, ⟨(some 174), none, .p (.iad 1 (.tmp 172) (.tmp 173))⟩, ⟨(some 175), none, .p (.ld none (.tmp 174))⟩, ⟨(some 176), none, .p (.fad 0 (.tmp 13))⟩, ⟨(some 177), none, .p (.ld none (.tmp 176))⟩, ⟨(some 178), none, .p (.iad 1 (.tmp 175) (.tmp 177))⟩, ⟨(some 179), none, .p (.ld none (.tmp 178))⟩, ⟨(some 180), none, .p (.mov (.tmp 6))⟩, ⟨(some 181), none, .p (.mov (.tmp 9))⟩, ⟨(some 182), none, .p (.iad 1 (.tmp 180) (.tmp 181))⟩, ⟨(some 183), none, .p (.ld none (.tmp 182))⟩, ⟨(some 184), none, .p (.fad 2 (.tmp 13))⟩, ⟨(some 185), none, .p (.ld none (.tmp 184))⟩, ⟨(some 186), none, .p (.iad 1 (.tmp 183) (.tmp 185))⟩, ⟨(some 187), none, .p (.ld none (.tmp 186))⟩, ⟨(some 14), none, .p (.mov (.tmp 179))⟩] [[⟨(some 15), none, .p (.mov (.tmp 187))⟩]])
  (.seq (.reg [⟨(some 188), none, .p (.mov (.tmp 1))⟩, ⟨(some 189), none, .p (.mov (.tmp 12))⟩, ⟨(some 190), none, .p (.iad 1 (.tmp 188) (.tmp 189))⟩, ⟨(some 191), none, .p (.ld none (.tmp 190))⟩, ⟨(some 192), none, .p (.mov (.tmp 191))⟩, ⟨(some 193), (some (192, true)), .p (.mov (.tmp 14))⟩, ⟨(some 194), (some (192, true)), .p (.bin .lss (.tmp 193) (.const (.int .i64 0)))⟩, ⟨(some 195), (some (192, true)), .p (.mov (.tmp 15))⟩, ⟨(some 196), (some (192, true)), .p (.bin .lss (.tmp 195) (.const (.int .i64 0)))⟩, ⟨(some 197), (some (192, true)), .p (.binb true (.tmp 194) (.tmp 196))⟩, ⟨(some 198), (some (192, true)), .p (.mov (.tmp 197))⟩, ⟨(some 199), (some (198, false)), .p (.mov (.tmp 14))⟩, ⟨(some 200), (some (198, false)), .p (.mov (.tmp 15))⟩, ⟨(some 201), (some (198, false)), .p (.bin .sub (.tmp 199) (.tmp 200))⟩, ⟨(some 202), (some (198, false)), .p (.bin .gtr (.tmp 201) (.const (.int .i64 1)))⟩, ⟨(some 203), (some (192, true)), .p (.pick (.tmp 198) (.const (.bool true)) (.tmp 202))⟩, ⟨(some 204), (some (192, true)), .p (.mov (.tmp 203))⟩, ⟨(some 205), (some (204, false)), .p (.mov (.tmp 15))⟩, ⟨(some 206), (some (204, false)), .p (.mov (.tmp 14))⟩, ⟨(some 207), (some (204, false)), .p (.bin .sub (.tmp 205) (.tmp 206))⟩, ⟨(some 208), (some (204, false)), .p (.bin .gtr (.tmp 207) (.const (.int .i64 1)))⟩, ⟨(some 209), (some (192, true)), .p (.pick (.tmp 204) (.const (.bool true)) (.tmp 208))⟩, ⟨(some 210), none, .p (.pick (.tmp 192) (.tmp 209) (.const (.bool false)))⟩])
  (.cond (.tmp 210) (.seq (.reg [⟨(some 4), none, .p (.mov (.const (.bool false)))⟩])
  .ret) .skip)))))
  (.reg [⟨(some 211), none, .p (.bin .add (.tmp 167) (.const (.int .i64 1)))⟩, ⟨(some 167), none, .p (.mov (.tmp 211))⟩]))))
def lb4_5 : LC :=
  (.seq (.reg [⟨(some 107), none, .p (.bin .lss (.tmp 106) (.tmp 105))⟩])
  (.seq (.cond (.tmp 107) .skip (.exit 6))
  (.seq (.block 7
  (.seq (.reg [⟨(some 108), none, .p (.mov (.tmp 106))⟩, ⟨(some 11), none, .p (.mov (.tmp 108))⟩])
  (.seq (.dreg [⟨(some 109), none, .p (.mov (.tmp 6))⟩, ⟨(some 110), none, .p (.mov (.tmp 9))⟩, ⟨(some 111), none, .p (.iad 1 (.tmp 109) (.tmp 110))⟩, ⟨(some 112), none, .p (.ld none (.tmp 111))⟩, ⟨(some 113), none, .p (.mov (.tmp 10))⟩, ⟨(some 114), none, .p (.iad 1 (.tmp 112) (.tmp 113))⟩, ⟨(some 115), none, .p (.ld none (.tmp 114))⟩, ⟨(some 116), none, .p (.bin .geq (.tmp 115) (.const (.int .i64 0)))⟩, ⟨(some 117), none, .p (.mov (.tmp 116))⟩, ⟨(some 118), (some (117, true)), .p (.mov (.tmp 6))⟩, ⟨(some 119), (some (117, true)), .p (.mov (.tmp 10))⟩, ⟨(some 120), (some (117, true)), .p (.iad 1 (.tmp 118) (.tmp 119))⟩, ⟨(some 121), (some (117, true)), .p (.ld none (.tmp 120))⟩, ⟨(some 122), (some (117, true)), .p (.mov (.tmp 11))⟩, ⟨(some 123), (some (117, true)), .p (.iad 1 (.tmp 121) (.tmp 122))⟩, ⟨(some 124), (some (117, true)), .p (.ld none (.tmp 123))⟩, ⟨(some 125), (some (117, true)), .p (.bin .geq (.tmp 124) (.const (.int .i64 0)))⟩, ⟨(some 126), none, .p (.pick (.tmp 117) (.tmp 125) (.const (.bool false)))⟩, ⟨(some 127), none, .p (.mov (.tmp 126))⟩, ⟨(some 128), (some (127, true)), .p (.mov (.tmp 6))⟩, ⟨(some 129), (some (127, true)), .p (.mov (.tmp 9))⟩, ⟨(some 130), (some (127, true)), .p (.iad 1 (.tmp 128) (.tmp 129))⟩, ⟨(some 131), (some (127, true)), .p (.ld none (.tmp 130))⟩, ⟨(some 132), (some (127, true)), .p (.mov (.tmp 11))⟩, ⟨(some 133), (some (127, true)), .p (.iad 1 (.tmp 131) (.tmp 132))⟩, ⟨(some 134), (some (127, true)), .p (.ld none (.tmp 133))⟩, ⟨(some 135), (some (127, true)), .p (.bin .lss (.tmp 134) (.const (.int .i64 0)))⟩, ⟨(some 136), (some (127, true)), .p (.mov (.tmp 135))⟩, ⟨(some 137), (some (136, false)), .p (.mov (.tmp 6))⟩, ⟨(some 138), (some (136, false)), .p (.mov (.tmp 9))⟩, ⟨(some 139), (some (136, false)), .p (.iad 1 (.tmp 137) (.tmp 138))⟩, ⟨(some 140), (some (136, false)), .p (.ld none (.tmp 139))⟩, ⟨(some 141), (some (136, false)), .p (.mov (.tmp 11))⟩, ⟨(some 142), (some (136, false)), .p (.iad 1 (.tmp 140) (.tmp 141))⟩, ⟨(some 143), (some (136, false)), .p (.ld none (.tmp 142))⟩, ⟨(some 144), (some (136, false)), .p (.mov (.tmp 6))⟩, ⟨(some 145), (some (136, false)), .p (.mov (.tmp 9))⟩, ⟨(some 146), (some (136, false)), .p (.iad 1 (.tmp 144) (.tmp 145))⟩, ⟨(some 147), (some (136, false)), .p (.ld none (.tmp 146))⟩, ⟨(some 148), (some (136, false)), .p (.mov (.tmp 10))⟩, ⟨(some 149), (some (136, false)), .p (.iad 1 (.tmp 147) (.tmp 148))⟩, ⟨(some 150), (some (136, false)), .p (.ld none (.tmp 149))⟩, ⟨(some 151), (some (136, false)), .p (.mov (.tmp 6))⟩, ⟨(some 152), (some (136, false)), .p (.mov (.tmp 10))⟩, ⟨(some 153), (some (136, false)), .p (.iad 1 (.tmp 151) (.tmp 152))⟩, ⟨(some 154), (some (136, false)), .p (.ld none (.tmp 153))⟩, ⟨(some 155), (some (136, false)), .p (.mov (.tmp 11))⟩, ⟨(some 156), (some (136, false)), .p (.iad 1 (.tmp 154) (.tmp 155))⟩, ⟨(some 157), (some (136, false)), .p (.ld none (.tmp 156))⟩, ⟨(some 158), (some (136, false)), .p (.bin .add (.tmp 150) (.tmp 157))⟩, ⟨(some 159), (some (136, false)), .p (.bin .gtr (.tmp 143) (.tmp 158))⟩, ⟨(some 160), (some (127, true)), .p (.pick (.tmp 136) (.const (.bool true)) (.tmp 159))⟩] [[⟨(some 161), none, .p (.pick (.tmp 127) (.tmp 160) (.const (.bool false)))⟩]])
  (.cond (.tmp 161) (.seq (.reg [⟨(some 4), none, .p (.mov (.const (.bool false)))⟩])
  .ret) .skip))))
  (.reg [⟨(some 162), none, .p (.bin .add (.tmp 106) (.const (.int .i64 1)))⟩, ⟨(some 106), none, .p (.mov (.tmp 162))⟩]))))
def lb4_6 : LC :=
  (.seq (.reg [⟨(some 74), none, .p (.bin .lss (.tmp 73) (.tmp 72))⟩])
  (.seq (.cond (.tmp 74) .skip (.exit 4))
  (.seq (.block 5
  (.seq (.reg [⟨(some 75), none, .p (.mov (.tmp 73))⟩, ⟨(some 10), none, .p (.mov (.tmp 75))⟩])
  (.seq (.seq (.dreg [⟨(some 76), none, .p (.mov (.tmp 6))⟩, ⟨(some 77), none, .p (.mov (.tmp 9))⟩, ⟨(some 78), none, .p (.iad 1 (.tmp 76) (.tmp 77))⟩, ⟨(some 79), none, .p (.ld none (.tmp 78))⟩, ⟨(some 80), none, .p (.mov (.tmp 10))⟩, ⟨(some 81), none, .p (.iad 1 (.tmp 79) (.tmp 80))⟩, ⟨(some 82), none, .p (.ld none (.tmp 81))⟩, ⟨(some 83), none, .p (.mov (.tmp 6))⟩, ⟨(some 84), none, .p (.mov (.tmp 10))⟩, ⟨(some 85), none, .p (.iad 1 (.tmp 83) (.tmp 84))⟩, ⟨(some 86), none, .p (.ld none (.tmp 85))⟩, ⟨(some 87), none, .p (.mov (.tmp 9))⟩, ⟨(some 88), none, .p (.iad 1 (.tmp 86) (.tmp 87))⟩, ⟨(some 89), none, .p (.ld none (.tmp 88))⟩, ⟨(some 90), none, .p (.bin .neq (.tmp 82) (.tmp 89))⟩, ⟨(some 91), none, .p (.mov (.tmp 90))⟩, ⟨(some 92), (some (91, false)), .p (.mov (.tmp 6))⟩, ⟨(some 93), (some (91, false)), .p (.mov (.tmp 9))⟩, ⟨(some 94), (some (91, false)), .p (.iad 1 (.tmp 92) (.tmp 93))⟩, ⟨(some 95), (some (91, false)), .p (.ld none (.tmp 94))⟩, ⟨(some 96), (some (91, false)), .p (.mov (.tmp 10))⟩, ⟨(some 97), (some (91, false)), .p (.iad 1 (.tmp 95) (.tmp 96))⟩, ⟨(some 98), (some (91, false)), .p (.ld none (.tmp 97))⟩, ⟨(some 99), (some (91, false)), .p (.bin .eql (.tmp 98) (.const (.int .i64 0)))⟩, ⟨(some 100), (some (91, false)), .p (.mov (.tmp 9))⟩, ⟨(some 101), (some (91, false)), .p (.mov (.tmp 10))⟩, ⟨(some 102), (some (91, false)), .p (.bin .eql (.tmp 100) (.tmp 101))⟩, ⟨(some 103), (some (91, false)), .p (.binb true (.tmp 99) (.tmp 102))⟩] [[⟨(some 104), none, .p (.pick (.tmp 91) (.const (.bool true)) (.tmp 103))⟩]])
  (.cond (.tmp 104) (.seq (.reg [⟨(some 4), none, .p (.mov (.const (.bool false)))⟩])
  .ret) .skip))
  (.seq (.reg [⟨(some 105), none, .p (.mov (.tmp 5))⟩, ⟨(some 106), none, .p (.mov (.const (.int .i64 0)))⟩])
  (.block 6
  (.loop lb4_5))))))
  (.reg [⟨(some 163), none, .p (.bin .add (.tmp 73) (.const (.int .i64 1)))⟩, ⟨(some 73), none, .p (.mov (.tmp 163))⟩]))))
def lb4_7 : LC :=
  (.seq (.reg [⟨(some 70), none, .p (.bin .lss (.tmp 69) (.tmp 68))⟩])
  (.seq (.cond (.tmp 70) .skip (.exit 2))
  (.seq (.block 3
  (.seq (.reg [⟨(some 71), none, .p (.mov (.tmp 69))⟩, ⟨(some 9), none, .p (.mov (.tmp 71))⟩])
  (.seq (.seq (.reg [⟨(some 72), none, .p (.mov (.tmp 5))⟩, ⟨(some 73), none, .p (.mov (.const (.int .i64 0)))⟩])
  (.block 4
  (.loop lb4_6)))
  (.seq (.reg [⟨(some 164), none, .p (.fad 1 (.tmp 2))⟩, ⟨(some 165), none, .p (.ld none (.tmp 164))⟩, ⟨(some 166), none, .p (.len 1 (.tmp 165))⟩, ⟨(some 167), none, .p (.mov (.const (.int .i64 0)))⟩])
  (.block 8
  (.loop lb4_4))))))
  (.reg [⟨(some 212), none, .p (.bin .add (.tmp 69) (.const (.int .i64 1)))⟩, ⟨(some 69), none, .p (.mov (.tmp 212))⟩]))))
def lb4_8 : LC :=
  (.seq (.reg [⟨(some 46), none, .p (.bin .lss (.tmp 45) (.tmp 44))⟩])
  (.seq (.cond (.tmp 46) .skip (.exit 0))
  (.seq (.block 1
  (.seq (.reg [⟨(some 47), none, .p (.mov (.tmp 45))⟩, ⟨(some 7), none, .p (.mov (.tmp 47))⟩])
  (.seq (.reg [⟨(some 48), none, .p (.ld (some 2) (.tmp 2))⟩, ⟨(some 49), none, .p (.mov (.tmp 7))⟩, ⟨(some 50), none, .p (.mov (.tmp 1))⟩, ⟨(some 51), none, .e (.call 15 [(.tmp 48), (.tmp 49), (.tmp 50)])⟩, ⟨(some 8), none, .p (.mov (.tmp 51))⟩])
  (.seq (.seq (.reg [⟨(some 52), none, .p (.mov (.tmp 8))⟩, ⟨(some 53), none, .p (.len 1 (.tmp 52))⟩, ⟨(some 54), none, .p (.mov (.tmp 5))⟩, ⟨(some 55), none, .p (.bin .neq (.tmp 53) (.tmp 54))⟩, ⟨(some 56), none, .p (.mov (.tmp 55))⟩, ⟨(some 57), (some (56, false)), .p (.mov (.tmp 8))⟩, ⟨(some 58), (some (56, false)), .p (.mov (.tmp 7))⟩, ⟨(some 59), (some (56, false)), .p (.iad 1 (.tmp 57) (.tmp 58))⟩, ⟨(some 60), (some (56, false)), .p (.ld none (.tmp 59))⟩, ⟨(some 61), (some (56, false)), .p (.bin .neq (.tmp 60) (.const (.int .i64 0)))⟩, ⟨(some 62), none, .p (.pick (.tmp 56) (.const (.bool true)) (.tmp 61))⟩])
  (.cond (.tmp 62) (.seq (.reg [⟨(some 4), none, .p (.mov (.const (.bool false)))⟩])
  .ret) .skip))
  (.reg [⟨(some 63), none, .p (.mov (.tmp 6))⟩, ⟨(some 64), none, .p (.mov (.tmp 8))⟩, ⟨(some 65), none, .e (.bsr 1 1 [(.slice none 0 0)] [(0, 1, (.tmp 64))])⟩, ⟨(some 66), none, .e (.app 0 1 24 (.tmp 63) (.tmp 65))⟩, ⟨(some 6), none, .p (.mov (.tmp 66))⟩])))))
  (.reg [⟨(some 67), none, .p (.bin .add (.tmp 45) (.const (.int .i64 1)))⟩, ⟨(some 45), none, .p (.mov (.tmp 67))⟩]))))
/-- fairlink fairlinklaw14.GraphMetric -/
def cf4 : LC :=
  (.seq (.reg [⟨(some 2), none, .e (.box (.tmp 0))⟩, ⟨(some 4), none, .p (.mov (.const (.bool false)))⟩])
  (.seq (.seq (.reg [⟨(some 24), none, .e (.call 11 [])⟩, ⟨(some 25), none, .p (.un .not (.tmp 24))⟩])
  (.cond (.tmp 25) (.seq (.reg [⟨(some 4), none, .p (.mov (.const (.bool false)))⟩])
  .ret) .skip))
  (.seq (.seq (.reg [⟨(some 26), none, .p (.ld (some 2) (.tmp 2))⟩, ⟨(some 27), none, .e (.call 12 [(.tmp 26)])⟩, ⟨(some 28), none, .p (.mov (.tmp 27))⟩, ⟨(some 29), (some (28, false)), .p (.ld (some 2) (.tmp 2))⟩, ⟨(some 30), (some (28, false)), .e (.call 13 [(.tmp 29)])⟩, ⟨(some 31), (some (28, false)), .p (.bin .neq (.tmp 30) (.const (.int .i64 0)))⟩, ⟨(some 32), none, .p (.pick (.tmp 28) (.const (.bool true)) (.tmp 31))⟩, ⟨(some 33), none, .p (.mov (.tmp 32))⟩, ⟨(some 34), (some (33, false)), .p (.mov (.tmp 1))⟩, ⟨(some 35), (some (33, false)), .p (.len 1 (.tmp 34))⟩, ⟨(some 36), (some (33, false)), .p (.fad 1 (.tmp 2))⟩, ⟨(some 37), (some (33, false)), .p (.ld none (.tmp 36))⟩, ⟨(some 38), (some (33, false)), .p (.len 1 (.tmp 37))⟩, ⟨(some 39), (some (33, false)), .p (.bin .neq (.tmp 35) (.tmp 38))⟩, ⟨(some 40), none, .p (.pick (.tmp 33) (.const (.bool true)) (.tmp 39))⟩])
  (.cond (.tmp 40) (.seq (.reg [⟨(some 4), none, .p (.mov (.const (.bool true)))⟩])
  .ret) .skip))
  (.seq (.reg [⟨(some 41), none, .p (.fad 0 (.tmp 2))⟩, ⟨(some 42), none, .p (.ld none (.tmp 41))⟩, ⟨(some 43), none, .p (.len 1 (.tmp 42))⟩, ⟨(some 5), none, .p (.mov (.tmp 43))⟩])
  (.seq (.reg [⟨(some 6), none, .p (.mov (.const (.slice none 0 0)))⟩])
  (.seq (.seq (.reg [⟨(some 44), none, .p (.mov (.tmp 5))⟩, ⟨(some 45), none, .p (.mov (.const (.int .i64 0)))⟩])
  (.block 0
  (.loop lb4_8)))
  (.seq (.seq (.reg [⟨(some 68), none, .p (.mov (.tmp 5))⟩, ⟨(some 69), none, .p (.mov (.const (.int .i64 0)))⟩])
  (.block 2
  (.loop lb4_7)))
  (.seq (.reg [⟨(some 213), none, .p (.mov (.tmp 5))⟩, ⟨(some 214), none, .e (.mks 1 1 [(.int .i64 0)] 8 (.tmp 213) (.tmp 213))⟩, ⟨(some 16), none, .p (.mov (.tmp 214))⟩])
  (.seq (.reg [⟨(some 17), none, .p (.mov (.const (.int .i64 0)))⟩])
  (.seq (.seq (.reg [⟨(some 215), none, .p (.ld (some 2) (.tmp 2))⟩, ⟨(some 216), none, .p (.mov (.tmp 1))⟩, ⟨(some 217), none, .e (.call 16 [(.tmp 215), (.tmp 216)])⟩, ⟨(some 218), none, .p (.len 1 (.tmp 217))⟩, ⟨(some 219), none, .p (.mov (.const (.int .i64 0)))⟩])
  (.block 10
  (.loop lb4_3)))
  (.seq (.seq (.reg [⟨(some 245), none, .p (.mov (.tmp 5))⟩, ⟨(some 246), none, .p (.mov (.const (.int .i64 0)))⟩])
  (.block 14
  (.loop lb4_1)))
  (.seq (.reg [⟨(some 273), none, .p (.mov (.tmp 17))⟩, ⟨(some 274), none, .p (.mov (.tmp 5))⟩, ⟨(some 275), none, .p (.bin .eql (.tmp 273) (.tmp 274))⟩, ⟨(some 4), none, .p (.mov (.tmp 275))⟩])
  .ret))))))))))))
def rf4 : List RX := [.tmp 4]
set_option maxRecDepth 100000 in
theorem comp4 : cFn Tryd.prog Tryd.f4 = some (erase cf4, rf4) := by kernel_rfl
def lb5_0 : LC :=
  (.seq (.reg [⟨(some 89), none, .p (.bin .lss (.tmp 88) (.tmp 87))⟩])
  (.seq (.cond (.tmp 89) .skip (.exit 0))
  (.seq (.block 1
  (.seq (.reg [⟨(some 90), none, .p (.mov (.tmp 88))⟩, ⟨(some 14), none, .p (.mov (.tmp 90))⟩])
  (.seq (.dreg [⟨(some 91), none, .p (.mov (.tmp 13))⟩, ⟨(some 92), none, .p (.mov (.tmp 14))⟩, ⟨(some 93), none, .p (.iad 1 (.tmp 91) (.tmp 92))⟩, ⟨(some 94), none, .p (.ld none (.tmp 93))⟩, ⟨(some 95), none, .p (.bin .geq (.tmp 94) (.const (.int .i64 0)))⟩, ⟨(some 96), none, .p (.mov (.tmp 95))⟩, ⟨(some 97), (some (96, true)), .p (.mov (.tmp 12))⟩, ⟨(some 98), (some (96, true)), .p (.mov (.tmp 14))⟩, ⟨(some 99), (some (96, true)), .p (.iad 1 (.tmp 97) (.tmp 98))⟩, ⟨(some 100), (some (96, true)), .p (.ld none (.tmp 99))⟩, ⟨(some 101), (some (96, true)), .p (.bin .lss (.tmp 100) (.const (.int .i64 0)))⟩, ⟨(some 102), (some (96, true)), .p (.mov (.tmp 101))⟩, ⟨(some 103), (some (102, false)), .p (.mov (.tmp 12))⟩, ⟨(some 104), (some (102, false)), .p (.mov (.tmp 14))⟩, ⟨(some 105), (some (102, false)), .p (.iad 1 (.tmp 103) (.tmp 104))⟩, ⟨(some 106), (some (102, false)), .p (.ld none (.tmp 105))⟩, ⟨(some 107), (some (102, false)), .p (.mov (.tmp 13))⟩, ⟨(some 108), (some (102, false)), .p (.mov (.tmp 14))⟩, ⟨(some 109), (some (102, false)), .p (.iad 1 (.tmp 107) (.tmp 108))⟩, ⟨(some 110), (some (102, false)), .p (.ld none (.tmp 109))⟩, ⟨(some 111), (some (102, false)), .p (.bin .gtr (.tmp 106) (.tmp 110))⟩, ⟨(some 112), (some (96, true)), .p (.pick (.tmp 102) (.const (.bool true)) (.tmp 111))⟩] [[⟨(some 113), none, .p (.pick (.tmp 96) (.tmp 112) (.const (.bool false)))⟩]])
  (.cond (.tmp 113) (.seq (.reg [⟨(some 8), none, .p (.mov (.const (.bool false)))⟩])
  .ret) .skip))))
  (.reg [⟨(some 114), none, .p (.bin .add (.tmp 88) (.const (.int .i64 1)))⟩, ⟨(some 88), none, .p (.mov (.tmp 114))⟩]))))
/-- fairlink fairlinklaw14.GraphDown -/
def cf5 : LC :=
  (.seq (.reg [⟨(some 4), none, .e (.box (.tmp 0))⟩, ⟨(some 8), none, .p (.mov (.const (.bool false)))⟩])
  (.seq (.seq (.reg [⟨(some 17), none, .e (.call 11 [])⟩, ⟨(some 18), none, .p (.un .not (.tmp 17))⟩])
  (.cond (.tmp 18) (.seq (.reg [⟨(some 8), none, .p (.mov (.const (.bool false)))⟩])
  .ret) .skip))
  (.seq (.seq (.reg [⟨(some 19), none, .p (.ld (some 2) (.tmp 4))⟩, ⟨(some 20), none, .e (.call 12 [(.tmp 19)])⟩, ⟨(some 21), none, .p (.mov (.tmp 20))⟩, ⟨(some 22), (some (21, false)), .p (.ld (some 2) (.tmp 4))⟩, ⟨(some 23), (some (21, false)), .e (.call 13 [(.tmp 22)])⟩, ⟨(some 24), (some (21, false)), .p (.bin .neq (.tmp 23) (.const (.int .i64 0)))⟩, ⟨(some 25), none, .p (.pick (.tmp 21) (.const (.bool true)) (.tmp 24))⟩, ⟨(some 26), none, .p (.mov (.tmp 25))⟩, ⟨(some 27), (some (26, false)), .p (.mov (.tmp 1))⟩, ⟨(some 28), (some (26, false)), .p (.len 1 (.tmp 27))⟩, ⟨(some 29), (some (26, false)), .p (.fad 1 (.tmp 4))⟩, ⟨(some 30), (some (26, false)), .p (.ld none (.tmp 29))⟩, ⟨(some 31), (some (26, false)), .p (.len 1 (.tmp 30))⟩, ⟨(some 32), (some (26, false)), .p (.bin .neq (.tmp 28) (.tmp 31))⟩, ⟨(some 33), none, .p (.pick (.tmp 26) (.const (.bool true)) (.tmp 32))⟩, ⟨(some 34), none, .p (.mov (.tmp 33))⟩, ⟨(some 35), (some (34, false)), .p (.mov (.tmp 1))⟩, ⟨(some 36), (some (34, false)), .p (.len 1 (.tmp 35))⟩, ⟨(some 37), (some (34, false)), .p (.bin .eql (.tmp 36) (.const (.int .i64 0)))⟩, ⟨(some 38), none, .p (.pick (.tmp 34) (.const (.bool true)) (.tmp 37))⟩, ⟨(some 39), none, .p (.mov (.tmp 38))⟩, ⟨(some 40), (some (39, false)), .p (.mov (.tmp 2))⟩, ⟨(some 41), (some (39, false)), .p (.bin .lss (.tmp 40) (.const (.int .i64 0)))⟩, ⟨(some 42), none, .p (.pick (.tmp 39) (.const (.bool true)) (.tmp 41))⟩, ⟨(some 43), none, .p (.mov (.tmp 42))⟩, ⟨(some 44), (some (43, false)), .p (.mov (.tmp 2))⟩, ⟨(some 45), (some (43, false)), .p (.fad 0 (.tmp 4))⟩, ⟨(some 46), (some (43, false)), .p (.ld none (.tmp 45))⟩, ⟨(some 47), (some (43, false)), .p (.len 1 (.tmp 46))⟩, ⟨(some 48), (some (43, false)), .p (.bin .geq (.tmp 44) (.tmp 47))⟩, ⟨(some 49), none, .p (.pick (.tmp 43) (.const (.bool true)) (.tmp 48))⟩])
  (.cond (.tmp 49) (.seq (.reg [⟨(some 8), none, .p (.mov (.const (.bool true)))⟩])
  .ret) .skip))
  (.seq (.reg [⟨(some 50), none, .p (.mov (.tmp 3))⟩, ⟨(some 51), none, .p (.cvt .i64 (.tmp 50))⟩, ⟨(some 52), none, .p (.mov (.tmp 1))⟩, ⟨(some 53), none, .p (.len 1 (.tmp 52))⟩, ⟨(some 54), none, .p (.bin .rem (.tmp 51) (.tmp 53))⟩, ⟨(some 9), none, .p (.mov (.tmp 54))⟩])
  (.seq (.reg [⟨(some 55), none, .p (.mov (.tmp 1))⟩, ⟨(some 56), none, .e (.call 17 [(.tmp 55)])⟩, ⟨(some 57), none, .p (.mov (.tmp 1))⟩, ⟨(some 58), none, .e (.call 17 [(.tmp 57)])⟩, ⟨(some 10), none, .p (.mov (.tmp 56))⟩, ⟨(some 11), none, .p (.mov (.tmp 58))⟩])
  (.seq (.reg [⟨(some 59), none, .p (.mov (.tmp 10))⟩, ⟨(some 60), none, .p (.mov (.tmp 9))⟩, ⟨(some 61), none, .p (.mov (.tmp 11))⟩, ⟨(some 62), none, .p (.mov (.tmp 9))⟩, ⟨(some 63), none, .p (.iad 1 (.tmp 59) (.tmp 60))⟩, ⟨none, none, .e (.st 1 (.tmp 63) (.const (.bool true)))⟩, ⟨(some 64), none, .p (.iad 1 (.tmp 61) (.tmp 62))⟩, ⟨none, none, .e (.st 1 (.tmp 64) (.const (.bool false)))⟩])
  (.seq (.dreg [⟨(some 65), none, .p (.ld (some 2) (.tmp 4))⟩, ⟨(some 66), none, .p (.mov (.tmp 2))⟩, ⟨(some 67), none, .p (.mov (.tmp 10))⟩, ⟨(some 68), none, .e (.call 15 [(.tmp 65), (.tmp 66), (.tmp 67)])⟩, ⟨(some 69), none, .p (.ld (some 2) (.tmp 4))⟩, ⟨(some 70), none, .p (.mov (.tmp 2))⟩, ⟨(some 71), none, .p (.mov (.tmp 11))⟩, ⟨(some 72), none, .e (.call 15 [(.tmp 69), (.tmp 70), (.tmp 71)])⟩, ⟨(some 12), none, .p (.mov (.tmp 68))⟩] [[⟨(some 13), none, .p (.mov (.tmp 72))⟩]])
  (.seq (.seq (.reg [⟨(some 73), none, .p (.mov (.tmp 12))⟩, ⟨(some 74), none, .p (.len 1 (.tmp 73))⟩, ⟨(some 75), none, .p (.fad 0 (.tmp 4))⟩, ⟨(some 76), none, .p (.ld none (.tmp 75))⟩, ⟨(some 77), none, .p (.len 1 (.tmp 76))⟩, ⟨(some 78), none, .p (.bin .neq (.tmp 74) (.tmp 77))⟩, ⟨(some 79), none, .p (.mov (.tmp 78))⟩, ⟨(some 80), (some (79, false)), .p (.mov (.tmp 13))⟩, ⟨(some 81), (some (79, false)), .p (.len 1 (.tmp 80))⟩, ⟨(some 82), (some (79, false)), .p (.mov (.tmp 12))⟩, ⟨(some 83), (some (79, false)), .p (.len 1 (.tmp 82))⟩, ⟨(some 84), (some (79, false)), .p (.bin .neq (.tmp 81) (.tmp 83))⟩, ⟨(some 85), none, .p (.pick (.tmp 79) (.const (.bool true)) (.tmp 84))⟩])
  (.cond (.tmp 85) (.seq (.reg [⟨(some 8), none, .p (.mov (.const (.bool false)))⟩])
  .ret) .skip))
  (.seq (.seq (.reg [⟨(some 86), none, .p (.mov (.tmp 12))⟩, ⟨(some 87), none, .p (.len 1 (.tmp 86))⟩, ⟨(some 88), none, .p (.mov (.const (.int .i64 0)))⟩])
  (.block 0
  (.loop lb5_0)))
  (.seq (.dreg [⟨(some 115), none, .p (.ld (some 2) (.tmp 4))⟩, ⟨(some 116), none, .p (.mov (.tmp 10))⟩, ⟨(some 117), none, .e (.call 16 [(.tmp 115), (.tmp 116)])⟩, ⟨(some 118), none, .p (.len 1 (.tmp 117))⟩, ⟨(some 119), none, .p (.ld (some 2) (.tmp 4))⟩, ⟨(some 120), none, .p (.mov (.tmp 11))⟩, ⟨(some 121), none, .e (.call 16 [(.tmp 119), (.tmp 120)])⟩, ⟨(some 122), none, .p (.len 1 (.tmp 121))⟩, ⟨(some 15), none, .p (.mov (.tmp 118))⟩] [[⟨(some 16), none, .p (.mov (.tmp 122))⟩]])
  (.seq (.reg [⟨(some 123), none, .p (.mov (.tmp 16))⟩, ⟨(some 124), none, .p (.mov (.tmp 15))⟩, ⟨(some 125), none, .p (.bin .eql (.tmp 123) (.tmp 124))⟩, ⟨(some 126), none, .p (.mov (.tmp 125))⟩, ⟨(some 127), (some (126, false)), .p (.mov (.tmp 16))⟩, ⟨(some 128), (some (126, false)), .p (.mov (.tmp 15))⟩, ⟨(some 129), (some (126, false)), .p (.bin .add (.tmp 128) (.const (.int .i64 1)))⟩, ⟨(some 130), (some (126, false)), .p (.bin .eql (.tmp 127) (.tmp 129))⟩, ⟨(some 131), none, .p (.pick (.tmp 126) (.const (.bool true)) (.tmp 130))⟩, ⟨(some 8), none, .p (.mov (.tmp 131))⟩])
  .ret)))))))))))
def rf5 : List RX := [.tmp 8]
set_option maxRecDepth 100000 in
theorem comp5 : cFn Tryd.prog Tryd.f5 = some (erase cf5, rf5) := by kernel_rfl
def lb6_0 : LC :=
  (.seq (.reg [⟨(some 43), none, .p (.bin .lss (.tmp 42) (.tmp 41))⟩])
  (.seq (.cond (.tmp 43) .skip (.exit 0))
  (.seq (.block 1
  (.seq (.reg [⟨(some 44), none, .p (.mov (.tmp 42))⟩, ⟨(some 45), none, .p (.iad 6 (.tmp 40) (.tmp 42))⟩, ⟨(some 46), none, .p (.ld (some 6) (.tmp 45))⟩, ⟨(some 15), none, .e (.alc [(.int .i64 0), (.int .i64 0), (.int .i64 0), (.int .i64 0), (.int .i64 0), (.int .i64 0)])⟩, ⟨(some 14), none, .p (.mov (.tmp 44))⟩, ⟨none, none, .e (.st 6 (.tmp 15) (.tmp 46))⟩])
  (.seq (.seq (.reg [⟨(some 47), none, .p (.ld (some 6) (.tmp 15))⟩, ⟨(some 48), none, .p (.mov (.tmp 1))⟩, ⟨(some 49), none, .e (.call 20 [(.tmp 47), (.tmp 48)])⟩, ⟨(some 50), none, .p (.bin .geq (.tmp 49) (.const (.int .i64 0)))⟩])
  (.cond (.tmp 50) (.reg [⟨(some 51), none, .p (.mov (.tmp 12))⟩, ⟨(some 52), none, .p (.mov (.tmp 14))⟩, ⟨(some 53), none, .e (.bsl 1 1 1 [(.int .i64 0)] [(0, 1, (.tmp 52))])⟩, ⟨(some 54), none, .e (.app 1 1 8 (.tmp 51) (.tmp 53))⟩, ⟨(some 12), none, .p (.mov (.tmp 54))⟩]) .skip))
  (.seq (.reg [⟨(some 55), none, .p (.fad 0 (.tmp 15))⟩, ⟨(some 56), none, .p (.ld none (.tmp 55))⟩, ⟨(some 57), none, .p (.mov (.tmp 1))⟩, ⟨(some 58), none, .p (.bin .eql (.tmp 56) (.tmp 57))⟩, ⟨(some 59), none, .p (.mov (.tmp 58))⟩, ⟨(some 60), (some (59, true)), .p (.fad 1 (.tmp 15))⟩, ⟨(some 61), (some (59, true)), .p (.ld none (.tmp 60))⟩, ⟨(some 62), (some (59, true)), .p (.mov (.tmp 2))⟩, ⟨(some 63), (some (59, true)), .p (.bin .eql (.tmp 61) (.tmp 62))⟩, ⟨(some 64), none, .p (.pick (.tmp 59) (.tmp 63) (.const (.bool false)))⟩, ⟨(some 65), none, .p (.mov (.tmp 64))⟩, ⟨(some 66), (some (65, false)), .p (.fad 2 (.tmp 15))⟩, ⟨(some 67), (some (65, false)), .p (.ld none (.tmp 66))⟩, ⟨(some 68), (some (65, false)), .p (.mov (.tmp 1))⟩, ⟨(some 69), (some (65, false)), .p (.bin .eql (.tmp 67) (.tmp 68))⟩, ⟨(some 70), (some (65, false)), .p (.mov (.tmp 69))⟩, ⟨(some 71), (some (70, true)), .p (.fad 3 (.tmp 15))⟩, ⟨(some 72), (some (70, true)), .p (.ld none (.tmp 71))⟩, ⟨(some 73), (some (70, true)), .p (.mov (.tmp 2))⟩, ⟨(some 74), (some (70, true)), .p (.bin .eql (.tmp 72) (.tmp 73))⟩, ⟨(some 75), (some (65, false)), .p (.pick (.tmp 70) (.tmp 74) (.const (.bool false)))⟩, ⟨(some 76), none, .p (.pick (.tmp 65) (.const (.bool true)) (.tmp 75))⟩])
  (.cond (.tmp 76) (.reg [⟨(some 77), none, .p (.mov (.tmp 14))⟩, ⟨(some 13), none, .p (.mov (.tmp 77))⟩]) .skip)))))
  (.reg [⟨(some 78), none, .p (.bin .add (.tmp 42) (.const (.int .i64 1)))⟩, ⟨(some 42), none, .p (.mov (.tmp 78))⟩]))))
/-- fairlink fairlinklaw14.GraphNeighbors -/
def cf6 : LC :=
  (.seq (.reg [⟨(some 3), none, .e (.box (.tmp 0))⟩, ⟨(some 6), none, .p (.mov (.const (.bool false)))⟩])
  (.seq (.seq (.reg [⟨(some 20), none, .e (.call 11 [])⟩, ⟨(some 21), none, .p (.un .not (.tmp 20))⟩])
  (.cond (.tmp 21) (.seq (.reg [⟨(some 6), none, .p (.mov (.const (.bool false)))⟩])
  .ret) .skip))
  (.seq (.seq (.reg [⟨(some 22), none, .p (.ld (some 2) (.tmp 3))⟩, ⟨(some 23), none, .e (.call 12 [(.tmp 22)])⟩])
  (.cond (.tmp 23) (.seq (.reg [⟨(some 6), none, .p (.mov (.const (.bool true)))⟩])
  .ret) .skip))
  (.seq (.reg [⟨(some 25), none, .p (.ld (some 2) (.tmp 3))⟩, ⟨(some 26), none, .p (.mov (.tmp 1))⟩, ⟨(some 27), none, .p (.mov (.tmp 2))⟩, ⟨(some 28), none, .e (.call 18 [(.tmp 25), (.tmp 26), (.tmp 27)])⟩, ⟨(some 24), none, .p (.mov (.tmp 28))⟩, ⟨(some 29), none, .p (.ext (.tmp 24) 0)⟩, ⟨(some 30), none, .p (.ext (.tmp 24) 1)⟩, ⟨(some 31), none, .p (.ext (.tmp 24) 2)⟩, ⟨(some 32), none, .p (.ext (.tmp 24) 3)⟩, ⟨(some 7), none, .p (.mov (.tmp 29))⟩, ⟨(some 8), none, .p (.mov (.tmp 30))⟩, ⟨(some 9), none, .p (.mov (.tmp 31))⟩, ⟨(some 10), none, .p (.mov (.tmp 32))⟩])
  (.seq (.reg [⟨(some 33), none, .p (.ld (some 2) (.tmp 3))⟩, ⟨(some 34), none, .p (.mov (.tmp 1))⟩, ⟨(some 35), none, .e (.call 19 [(.tmp 33), (.tmp 34)])⟩, ⟨(some 11), none, .p (.mov (.tmp 35))⟩])
  (.seq (.reg [⟨(some 12), none, .p (.mov (.const (.slice none 0 0)))⟩])
  (.seq (.reg [⟨(some 13), none, .p (.mov (.const (.int .i64 (-1))))⟩])
  (.seq (.seq (.reg [⟨(some 36), none, .p (.ld (some 2) (.tmp 3))⟩, ⟨(some 37), none, .e (.call 14 [(.tmp 36)])⟩, ⟨(some 38), none, .p (.bin .eql (.tmp 37) (.const (.int .i64 0)))⟩])
  (.cond (.tmp 38) (.seq (.reg [⟨(some 39), none, .p (.fad 1 (.tmp 3))⟩, ⟨(some 40), none, .p (.ld none (.tmp 39))⟩, ⟨(some 41), none, .p (.len 1 (.tmp 40))⟩, ⟨(some 42), none, .p (.mov (.const (.int .i64 0)))⟩])
  (.block 0
  (.loop lb6_0))) .skip))
  (.seq (.seq (.reg [⟨(some 79), none, .p (.mov (.tmp 11))⟩, ⟨(some 80), none, .p (.mov (.tmp 12))⟩, ⟨(some 81), none, .e (.call 21 [(.tmp 79), (.tmp 80)])⟩, ⟨(some 82), none, .p (.un .not (.tmp 81))⟩, ⟨(some 83), none, .p (.mov (.tmp 82))⟩, ⟨(some 84), (some (83, false)), .p (.mov (.tmp 10))⟩, ⟨(some 85), (some (83, false)), .p (.mov (.tmp 13))⟩, ⟨(some 86), (some (83, false)), .p (.bin .geq (.tmp 85) (.const (.int .i64 0)))⟩, ⟨(some 87), (some (83, false)), .p (.binb true (.tmp 84) (.tmp 86))⟩, ⟨(some 88), none, .p (.pick (.tmp 83) (.const (.bool true)) (.tmp 87))⟩])
  (.cond (.tmp 88) (.seq (.reg [⟨(some 6), none, .p (.mov (.const (.bool false)))⟩])
  .ret) .skip))
  (.seq (.seq (.reg [⟨(some 89), none, .p (.mov (.tmp 10))⟩, ⟨(some 90), none, .p (.un .not (.tmp 89))⟩])
  (.cond (.tmp 90) (.seq (.reg [⟨(some 91), none, .p (.mov (.tmp 7))⟩, ⟨(some 92), none, .p (.bin .eql (.tmp 91) (.const (.int .i64 (-1))))⟩, ⟨(some 93), none, .p (.mov (.tmp 92))⟩, ⟨(some 94), (some (93, true)), .p (.mov (.tmp 8))⟩, ⟨(some 95), (some (93, true)), .p (.bin .eql (.tmp 94) (.const (.int .i64 (-1))))⟩, ⟨(some 96), none, .p (.pick (.tmp 93) (.tmp 95) (.const (.bool false)))⟩, ⟨(some 97), none, .p (.mov (.tmp 96))⟩, ⟨(some 98), (some (97, true)), .p (.mov (.tmp 9))⟩, ⟨(some 99), (some (97, true)), .p (.bin .eql (.tmp 98) (.const (.int .i64 (-1))))⟩, ⟨(some 100), none, .p (.pick (.tmp 97) (.tmp 99) (.const (.bool false)))⟩, ⟨(some 6), none, .p (.mov (.tmp 100))⟩])
  .ret) .skip))
  (.seq (.reg [⟨(some 102), none, .p (.ld (some 2) (.tmp 3))⟩, ⟨(some 103), none, .p (.mov (.tmp 7))⟩, ⟨(some 104), none, .p (.mov (.tmp 8))⟩, ⟨(some 105), none, .e (.call 18 [(.tmp 102), (.tmp 103), (.tmp 104)])⟩, ⟨(some 101), none, .p (.mov (.tmp 105))⟩, ⟨(some 106), none, .p (.ext (.tmp 101) 0)⟩, ⟨(some 107), none, .p (.ext (.tmp 101) 1)⟩, ⟨(some 108), none, .p (.ext (.tmp 101) 2)⟩, ⟨(some 109), none, .p (.ext (.tmp 101) 3)⟩, ⟨(some 16), none, .p (.mov (.tmp 106))⟩, ⟨(some 17), none, .p (.mov (.tmp 107))⟩, ⟨(some 18), none, .p (.mov (.tmp 108))⟩, ⟨(some 19), none, .p (.mov (.tmp 109))⟩])
  (.seq (.reg [⟨(some 110), none, .p (.mov (.tmp 9))⟩, ⟨(some 111), none, .p (.mov (.tmp 13))⟩, ⟨(some 112), none, .p (.bin .eql (.tmp 110) (.tmp 111))⟩, ⟨(some 113), none, .p (.mov (.tmp 112))⟩, ⟨(some 114), (some (113, true)), .p (.mov (.tmp 18))⟩, ⟨(some 115), (some (113, true)), .p (.mov (.tmp 13))⟩, ⟨(some 116), (some (113, true)), .p (.bin .eql (.tmp 114) (.tmp 115))⟩, ⟨(some 117), none, .p (.pick (.tmp 113) (.tmp 116) (.const (.bool false)))⟩, ⟨(some 118), none, .p (.mov (.tmp 117))⟩, ⟨(some 119), (some (118, true)), .p (.mov (.tmp 19))⟩, ⟨(some 120), none, .p (.pick (.tmp 118) (.tmp 119) (.const (.bool false)))⟩, ⟨(some 121), none, .p (.mov (.tmp 120))⟩, ⟨(some 122), (some (121, true)), .p (.mov (.tmp 16))⟩, ⟨(some 123), (some (121, true)), .p (.mov (.tmp 1))⟩, ⟨(some 124), (some (121, true)), .p (.bin .eql (.tmp 122) (.tmp 123))⟩, ⟨(some 125), none, .p (.pick (.tmp 121) (.tmp 124) (.const (.bool false)))⟩, ⟨(some 126), none, .p (.mov (.tmp 125))⟩, ⟨(some 127), (some (126, true)), .p (.mov (.tmp 17))⟩, ⟨(some 128), (some (126, true)), .p (.mov (.tmp 2))⟩, ⟨(some 129), (some (126, true)), .p (.bin .eql (.tmp 127) (.tmp 128))⟩, ⟨(some 130), none, .p (.pick (.tmp 126) (.tmp 129) (.const (.bool false)))⟩, ⟨(some 131), none, .p (.mov (.tmp 130))⟩, ⟨(some 132), (some (131, true)), .p (.mov (.tmp 7))⟩, ⟨(some 133), (some (131, true)), .p (.fad 1 (.tmp 3))⟩, ⟨(some 134), (some (131, true)), .p (.ld none (.tmp 133))⟩, ⟨(some 135), (some (131, true)), .p (.mov (.tmp 13))⟩, ⟨(some 136), (some (131, true)), .p (.iad 6 (.tmp 134) (.tmp 135))⟩, ⟨(some 137), (some (131, true)), .p (.ld (some 6) (.tmp 136))⟩, ⟨(some 138), (some (131, true)), .p (.mov (.tmp 1))⟩, ⟨(some 139), (some (131, true)), .e (.call 20 [(.tmp 137), (.tmp 138)])⟩, ⟨(some 140), (some (131, true)), .p (.bin .eql (.tmp 132) (.tmp 139))⟩, ⟨(some 141), none, .p (.pick (.tmp 131) (.tmp 140) (.const (.bool false)))⟩, ⟨(some 6), none, .p (.mov (.tmp 141))⟩])
  .ret))))))))))))
def rf6 : List RX := [.tmp 6]
set_option maxRecDepth 100000 in
theorem comp6 : cFn Tryd.prog Tryd.f6 = some (erase cf6, rf6) := by kernel_rfl
/-- fairlink fairlinklaw14.GraphDistances -/
def cf7 : LC :=
  (.seq (.reg [⟨(some 3), none, .e (.box (.tmp 0))⟩, ⟨(some 6), none, .p (.mov (.const (.bool false)))⟩])
  (.seq (.seq (.reg [⟨(some 11), none, .e (.call 11 [])⟩, ⟨(some 12), none, .p (.un .not (.tmp 11))⟩])
  (.cond (.tmp 12) (.seq (.reg [⟨(some 6), none, .p (.mov (.const (.bool false)))⟩])
  .ret) .skip))
  (.seq (.seq (.reg [⟨(some 13), none, .p (.ld (some 2) (.tmp 3))⟩, ⟨(some 14), none, .e (.call 12 [(.tmp 13)])⟩, ⟨(some 15), none, .p (.mov (.tmp 14))⟩, ⟨(some 16), (some (15, false)), .p (.mov (.tmp 2))⟩, ⟨(some 17), (some (15, false)), .p (.len 1 (.tmp 16))⟩, ⟨(some 18), (some (15, false)), .p (.bin .gtr (.tmp 17) (.const (.int .i64 50)))⟩, ⟨(some 19), none, .p (.pick (.tmp 15) (.const (.bool true)) (.tmp 18))⟩])
  (.cond (.tmp 19) (.seq (.reg [⟨(some 6), none, .p (.mov (.const (.bool true)))⟩])
  .ret) .skip))
  (.seq (.dreg [⟨(some 20), none, .p (.ld (some 2) (.tmp 3))⟩, ⟨(some 21), none, .p (.mov (.tmp 1))⟩, ⟨(some 22), none, .p (.mov (.tmp 2))⟩, ⟨(some 23), none, .e (.call 15 [(.tmp 20), (.tmp 21), (.tmp 22)])⟩, ⟨(some 24), none, .p (.ld (some 2) (.tmp 3))⟩, ⟨(some 25), none, .p (.mov (.tmp 2))⟩, ⟨(some 26), none, .e (.call 16 [(.tmp 24), (.tmp 25)])⟩, ⟨(some 27), none, .p (.ld (some 2) (.tmp 3))⟩, ⟨(some 28), none, .p (.mov (.tmp 2))⟩, ⟨(some 29), none, .e (.call 22 [(.tmp 27), (.tmp 28)])⟩, ⟨(some 7), none, .p (.mov (.tmp 23))⟩, ⟨(some 8), none, .p (.mov (.tmp 26))⟩] [[⟨(some 9), none, .p (.mov (.tmp 29))⟩]])
  (.seq (.seq (.reg [⟨(some 30), none, .p (.ld (some 2) (.tmp 3))⟩, ⟨(some 31), none, .e (.call 14 [(.tmp 30)])⟩, ⟨(some 32), none, .p (.bin .neq (.tmp 31) (.const (.int .i64 0)))⟩, ⟨(some 33), none, .p (.mov (.tmp 32))⟩, ⟨(some 34), (some (33, false)), .p (.mov (.tmp 2))⟩, ⟨(some 35), (some (33, false)), .p (.len 1 (.tmp 34))⟩, ⟨(some 36), (some (33, false)), .p (.fad 1 (.tmp 3))⟩, ⟨(some 37), (some (33, false)), .p (.ld none (.tmp 36))⟩, ⟨(some 38), (some (33, false)), .p (.len 1 (.tmp 37))⟩, ⟨(some 39), (some (33, false)), .p (.bin .neq (.tmp 35) (.tmp 38))⟩, ⟨(some 40), none, .p (.pick (.tmp 33) (.const (.bool true)) (.tmp 39))⟩])
  (.cond (.tmp 40) (.seq (.reg [⟨(some 41), none, .p (.mov (.tmp 7))⟩, ⟨(some 42), none, .p (.len 1 (.tmp 41))⟩, ⟨(some 43), none, .p (.bin .eql (.tmp 42) (.const (.int .i64 0)))⟩, ⟨(some 44), none, .p (.mov (.tmp 43))⟩, ⟨(some 45), (some (44, true)), .p (.mov (.tmp 8))⟩, ⟨(some 46), (some (44, true)), .p (.len 1 (.tmp 45))⟩, ⟨(some 47), (some (44, true)), .p (.bin .eql (.tmp 46) (.const (.int .i64 0)))⟩, ⟨(some 48), none, .p (.pick (.tmp 44) (.tmp 47) (.const (.bool false)))⟩, ⟨(some 49), none, .p (.mov (.tmp 48))⟩, ⟨(some 50), (some (49, true)), .p (.mov (.tmp 9))⟩, ⟨(some 51), (some (49, true)), .p (.un .not (.tmp 50))⟩, ⟨(some 52), none, .p (.pick (.tmp 49) (.tmp 51) (.const (.bool false)))⟩, ⟨(some 6), none, .p (.mov (.tmp 52))⟩])
  .ret) .skip))
  (.seq (.reg [⟨(some 53), none, .p (.ld (some 2) (.tmp 3))⟩, ⟨(some 54), none, .p (.mov (.tmp 2))⟩, ⟨(some 55), none, .e (.call 23 [(.tmp 53), (.tmp 54)])⟩, ⟨(some 10), none, .p (.mov (.tmp 55))⟩])
  (.seq (.seq (.reg [⟨(some 56), none, .p (.mov (.tmp 8))⟩, ⟨(some 57), none, .p (.mov (.tmp 10))⟩, ⟨(some 58), none, .e (.call 24 [(.tmp 56), (.tmp 57), (.func 21)])⟩, ⟨(some 59), none, .p (.un .not (.tmp 58))⟩, ⟨(some 60), none, .p (.mov (.tmp 59))⟩, ⟨(some 61), (some (60, false)), .p (.mov (.tmp 9))⟩, ⟨(some 62), (some (60, false)), .p (.mov (.tmp 10))⟩, ⟨(some 63), (some (60, false)), .p (.len 1 (.tmp 62))⟩, ⟨(some 64), (some (60, false)), .p (.bin .eql (.tmp 63) (.const (.int .i64 1)))⟩, ⟨(some 65), (some (60, false)), .p (.binb true (.tmp 61) (.tmp 64))⟩, ⟨(some 66), none, .p (.pick (.tmp 60) (.const (.bool true)) (.tmp 65))⟩])
  (.cond (.tmp 66) (.seq (.reg [⟨(some 6), none, .p (.mov (.const (.bool false)))⟩])
  .ret) .skip))
  (.seq (.seq (.reg [⟨(some 67), none, .p (.mov (.tmp 1))⟩, ⟨(some 68), none, .p (.bin .lss (.tmp 67) (.const (.int .i64 0)))⟩, ⟨(some 69), none, .p (.mov (.tmp 68))⟩, ⟨(some 70), (some (69, false)), .p (.mov (.tmp 1))⟩, ⟨(some 71), (some (69, false)), .p (.fad 0 (.tmp 3))⟩, ⟨(some 72), (some (69, false)), .p (.ld none (.tmp 71))⟩, ⟨(some 73), (some (69, false)), .p (.len 1 (.tmp 72))⟩, ⟨(some 74), (some (69, false)), .p (.bin .geq (.tmp 70) (.tmp 73))⟩, ⟨(some 75), none, .p (.pick (.tmp 69) (.const (.bool true)) (.tmp 74))⟩])
  (.cond (.tmp 75) (.seq (.reg [⟨(some 76), none, .p (.mov (.tmp 7))⟩, ⟨(some 77), none, .p (.len 1 (.tmp 76))⟩, ⟨(some 78), none, .p (.bin .eql (.tmp 77) (.const (.int .i64 0)))⟩, ⟨(some 6), none, .p (.mov (.tmp 78))⟩])
  .ret) .skip))
  (.seq (.reg [⟨(some 79), none, .p (.mov (.tmp 7))⟩, ⟨(some 80), none, .p (.ld (some 2) (.tmp 3))⟩, ⟨(some 81), none, .p (.mov (.tmp 1))⟩, ⟨(some 82), none, .p (.mov (.tmp 2))⟩, ⟨(some 83), none, .e (.call 25 [(.tmp 80), (.tmp 81), (.tmp 82)])⟩, ⟨(some 84), none, .e (.call 21 [(.tmp 79), (.tmp 83)])⟩, ⟨(some 6), none, .p (.mov (.tmp 84))⟩])
  .ret)))))))))
def rf7 : List RX := [.tmp 6]
set_option maxRecDepth 100000 in
theorem comp7 : cFn Tryd.prog Tryd.f7 = some (erase cf7, rf7) := by kernel_rfl
def lb8_0 : LC :=
  (.seq (.reg [⟨(some 51), none, .p (.bin .lss (.tmp 50) (.tmp 49))⟩])
  (.seq (.cond (.tmp 51) .skip (.exit 0))
  (.seq (.block 1
  (.seq (.reg [⟨(some 52), none, .p (.mov (.tmp 50))⟩, ⟨(some 53), none, .p (.iad 1 (.tmp 48) (.tmp 50))⟩, ⟨(some 54), none, .p (.ld none (.tmp 53))⟩, ⟨(some 8), none, .e (.alc [(.int .i64 0)])⟩, ⟨(some 9), none, .e (.alc [(.int .i64 0)])⟩, ⟨none, none, .e (.st 1 (.tmp 8) (.tmp 52))⟩, ⟨none, none, .e (.st 1 (.tmp 9) (.tmp 54))⟩])
  (.seq (.seq (.reg [⟨(some 55), none, .p (.ld none (.tmp 9))⟩, ⟨(some 56), none, .p (.bin .leq (.tmp 55) (.const (.int .i64 0)))⟩])
  (.cond (.tmp 56) (.exit 1) .skip))
  (.seq (.reg [⟨(some 57), none, .p (.ld (some 2) (.tmp 3))⟩, ⟨(some 58), none, .p (.ld none (.tmp 8))⟩, ⟨(some 59), none, .e (.call 19 [(.tmp 57), (.tmp 58)])⟩, ⟨(some 60), none, .p (.mkf 27 [(.tmp 5), (.tmp 7), (.tmp 3), (.tmp 8), (.tmp 9)])⟩, ⟨(some 61), none, .e (.call 26 [(.tmp 59), (.tmp 60)])⟩, ⟨(some 62), none, .p (.un .not (.tmp 61))⟩])
  (.cond (.tmp 62) (.seq (.reg [⟨(some 6), none, .p (.mov (.const (.bool false)))⟩])
  .ret) .skip)))))
  (.reg [⟨(some 63), none, .p (.bin .add (.tmp 50) (.const (.int .i64 1)))⟩, ⟨(some 50), none, .p (.mov (.tmp 63))⟩]))))
/-- fairlink fairlinklaw14.GraphSteps -/
def cf8 : LC :=
  (.seq (.reg [⟨(some 3), none, .e (.box (.tmp 0))⟩, ⟨(some 5), none, .e (.box (.tmp 2))⟩, ⟨(some 6), none, .p (.mov (.const (.bool false)))⟩])
  (.seq (.seq (.reg [⟨(some 10), none, .e (.call 11 [])⟩, ⟨(some 11), none, .p (.un .not (.tmp 10))⟩])
  (.cond (.tmp 11) (.seq (.reg [⟨(some 6), none, .p (.mov (.const (.bool false)))⟩])
  .ret) .skip))
  (.seq (.seq (.reg [⟨(some 12), none, .p (.ld (some 2) (.tmp 3))⟩, ⟨(some 13), none, .e (.call 12 [(.tmp 12)])⟩, ⟨(some 14), none, .p (.mov (.tmp 13))⟩, ⟨(some 15), (some (14, false)), .p (.ld (some 2) (.tmp 3))⟩, ⟨(some 16), (some (14, false)), .e (.call 13 [(.tmp 15)])⟩, ⟨(some 17), (some (14, false)), .p (.bin .neq (.tmp 16) (.const (.int .i64 0)))⟩, ⟨(some 18), none, .p (.pick (.tmp 14) (.const (.bool true)) (.tmp 17))⟩, ⟨(some 19), none, .p (.mov (.tmp 18))⟩, ⟨(some 20), (some (19, false)), .p (.ld none (.tmp 5))⟩, ⟨(some 21), (some (19, false)), .p (.len 1 (.tmp 20))⟩, ⟨(some 22), (some (19, false)), .p (.fad 1 (.tmp 3))⟩, ⟨(some 23), (some (19, false)), .p (.ld none (.tmp 22))⟩, ⟨(some 24), (some (19, false)), .p (.len 1 (.tmp 23))⟩, ⟨(some 25), (some (19, false)), .p (.bin .neq (.tmp 21) (.tmp 24))⟩, ⟨(some 26), none, .p (.pick (.tmp 19) (.const (.bool true)) (.tmp 25))⟩, ⟨(some 27), none, .p (.mov (.tmp 26))⟩, ⟨(some 28), (some (27, false)), .p (.mov (.tmp 1))⟩, ⟨(some 29), (some (27, false)), .p (.bin .lss (.tmp 28) (.const (.int .i64 0)))⟩, ⟨(some 30), none, .p (.pick (.tmp 27) (.const (.bool true)) (.tmp 29))⟩, ⟨(some 31), none, .p (.mov (.tmp 30))⟩, ⟨(some 32), (some (31, false)), .p (.mov (.tmp 1))⟩, ⟨(some 33), (some (31, false)), .p (.fad 0 (.tmp 3))⟩, ⟨(some 34), (some (31, false)), .p (.ld none (.tmp 33))⟩, ⟨(some 35), (some (31, false)), .p (.len 1 (.tmp 34))⟩, ⟨(some 36), (some (31, false)), .p (.bin .geq (.tmp 32) (.tmp 35))⟩, ⟨(some 37), none, .p (.pick (.tmp 31) (.const (.bool true)) (.tmp 36))⟩])
  (.cond (.tmp 37) (.seq (.reg [⟨(some 6), none, .p (.mov (.const (.bool true)))⟩])
  .ret) .skip))
  (.seq (.reg [⟨(some 38), none, .p (.ld (some 2) (.tmp 3))⟩, ⟨(some 39), none, .p (.mov (.tmp 1))⟩, ⟨(some 40), none, .p (.ld none (.tmp 5))⟩, ⟨(some 41), none, .e (.call 15 [(.tmp 38), (.tmp 39), (.tmp 40)])⟩, ⟨(some 7), none, .e (.alc [(.slice none 0 0)])⟩, ⟨none, none, .e (.st 1 (.tmp 7) (.tmp 41))⟩])
  (.seq (.seq (.reg [⟨(some 42), none, .p (.ld none (.tmp 7))⟩, ⟨(some 43), none, .p (.len 1 (.tmp 42))⟩, ⟨(some 44), none, .p (.fad 0 (.tmp 3))⟩, ⟨(some 45), none, .p (.ld none (.tmp 44))⟩, ⟨(some 46), none, .p (.len 1 (.tmp 45))⟩, ⟨(some 47), none, .p (.bin .neq (.tmp 43) (.tmp 46))⟩])
  (.cond (.tmp 47) (.seq (.reg [⟨(some 6), none, .p (.mov (.const (.bool false)))⟩])
  .ret) .skip))
  (.seq (.seq (.reg [⟨(some 48), none, .p (.ld none (.tmp 7))⟩, ⟨(some 49), none, .p (.len 1 (.tmp 48))⟩, ⟨(some 50), none, .p (.mov (.const (.int .i64 0)))⟩])
  (.block 0
  (.loop lb8_0)))
  (.seq (.reg [⟨(some 6), none, .p (.mov (.const (.bool true)))⟩])
  .ret)))))))
def rf8 : List RX := [.tmp 6]
set_option maxRecDepth 100000 in
theorem comp8 : cFn Tryd.prog Tryd.f8 = some (erase cf8, rf8) := by kernel_rfl
/-- fairlink fairlinklaw14.GraphTexts -/
def cf9 : LC :=
  (.seq (.reg [⟨(some 1), none, .e (.box (.tmp 0))⟩, ⟨(some 2), none, .p (.mov (.const (.bool false)))⟩])
  (.seq (.seq (.reg [⟨(some 9), none, .e (.call 11 [])⟩, ⟨(some 10), none, .p (.un .not (.tmp 9))⟩])
  (.cond (.tmp 10) (.seq (.reg [⟨(some 2), none, .p (.mov (.const (.bool false)))⟩])
  .ret) .skip))
  (.seq (.seq (.reg [⟨(some 11), none, .p (.ld (some 2) (.tmp 1))⟩, ⟨(some 12), none, .e (.call 12 [(.tmp 11)])⟩])
  (.cond (.tmp 12) (.seq (.reg [⟨(some 2), none, .p (.mov (.const (.bool true)))⟩])
  .ret) .skip))
  (.seq (.reg [⟨(some 14), none, .p (.ld (some 2) (.tmp 1))⟩, ⟨(some 15), none, .e (.call 28 [(.tmp 14)])⟩, ⟨(some 13), none, .p (.mov (.tmp 15))⟩, ⟨(some 16), none, .p (.ext (.tmp 13) 0)⟩, ⟨(some 17), none, .p (.ext (.tmp 13) 1)⟩, ⟨(some 3), none, .p (.mov (.tmp 16))⟩, ⟨(some 4), none, .p (.mov (.tmp 17))⟩])
  (.seq (.seq (.reg [⟨(some 18), none, .p (.ld (some 2) (.tmp 1))⟩, ⟨(some 19), none, .e (.call 14 [(.tmp 18)])⟩, ⟨(some 5), none, .p (.mov (.tmp 19))⟩])
  (.seq (.reg [⟨(some 20), none, .p (.mov (.tmp 5))⟩, ⟨(some 21), none, .p (.bin .neq (.tmp 20) (.const (.int .i64 0)))⟩])
  (.cond (.tmp 21) (.seq (.reg [⟨(some 22), none, .p (.mov (.tmp 3))⟩, ⟨(some 23), none, .p (.bin .eql (.tmp 22) (.const (.string ⟨#[]⟩)))⟩, ⟨(some 24), none, .p (.mov (.tmp 23))⟩, ⟨(some 25), (some (24, true)), .p (.mov (.tmp 4))⟩, ⟨(some 26), (some (24, true)), .p (.mov (.tmp 5))⟩, ⟨(some 27), (some (24, true)), .p (.bin .eql (.tmp 25) (.tmp 26))⟩, ⟨(some 28), none, .p (.pick (.tmp 24) (.tmp 27) (.const (.bool false)))⟩, ⟨(some 2), none, .p (.mov (.tmp 28))⟩])
  .ret) .skip)))
  (.seq (.reg [⟨(some 30), none, .p (.mov (.tmp 3))⟩, ⟨(some 31), none, .e (.call 29 [(.tmp 30)])⟩, ⟨(some 29), none, .p (.mov (.tmp 31))⟩, ⟨(some 32), none, .p (.ext (.tmp 29) 0)⟩, ⟨(some 33), none, .p (.ext (.tmp 29) 1)⟩, ⟨(some 34), none, .p (.ext (.tmp 29) 2)⟩, ⟨(some 6), none, .e (.alc [(.slice none 0 0), (.slice none 0 0)])⟩, ⟨none, none, .e (.st 2 (.tmp 6) (.tmp 32))⟩, ⟨(some 7), none, .p (.mov (.tmp 33))⟩, ⟨(some 8), none, .p (.mov (.tmp 34))⟩])
  (.seq (.reg [⟨(some 35), none, .p (.mov (.tmp 4))⟩, ⟨(some 36), none, .p (.bin .eql (.tmp 35) (.const (.int .i64 0)))⟩, ⟨(some 37), none, .p (.mov (.tmp 36))⟩, ⟨(some 38), (some (37, true)), .p (.mov (.tmp 3))⟩, ⟨(some 39), (some (37, true)), .p (.ld (some 2) (.tmp 1))⟩, ⟨(some 40), (some (37, true)), .e (.call 30 [(.tmp 39)])⟩, ⟨(some 41), (some (37, true)), .p (.bin .eql (.tmp 38) (.tmp 40))⟩, ⟨(some 42), none, .p (.pick (.tmp 37) (.tmp 41) (.const (.bool false)))⟩, ⟨(some 43), none, .p (.mov (.tmp 42))⟩, ⟨(some 44), (some (43, true)), .p (.mov (.tmp 8))⟩, ⟨(some 45), (some (43, true)), .p (.bin .eql (.tmp 44) (.const (.int .i64 0)))⟩, ⟨(some 46), none, .p (.pick (.tmp 43) (.tmp 45) (.const (.bool false)))⟩, ⟨(some 47), none, .p (.mov (.tmp 46))⟩, ⟨(some 48), (some (47, true)), .p (.mov (.tmp 7))⟩, ⟨(some 49), (some (47, true)), .p (.bin .eql (.tmp 48) (.const (.int .i64 0)))⟩, ⟨(some 50), none, .p (.pick (.tmp 47) (.tmp 49) (.const (.bool false)))⟩, ⟨(some 51), none, .p (.mov (.tmp 50))⟩, ⟨(some 52), (some (51, true)), .p (.ld (some 2) (.tmp 1))⟩, ⟨(some 53), (some (51, true)), .p (.ld (some 2) (.tmp 6))⟩, ⟨(some 54), (some (51, true)), .e (.call 31 [(.tmp 52), (.tmp 53)])⟩, ⟨(some 55), none, .p (.pick (.tmp 51) (.tmp 54) (.const (.bool false)))⟩, ⟨(some 2), none, .p (.mov (.tmp 55))⟩])
  .ret)))))))
def rf9 : List RX := [.tmp 2]
set_option maxRecDepth 100000 in
theorem comp9 : cFn Tryd.prog Tryd.f9 = some (erase cf9, rf9) := by kernel_rfl
/-- fairlink fairlinklaw14.GraphAgain -/
def cf10 : LC :=
  (.seq (.reg [⟨(some 4), none, .p (.mov (.const (.bool false)))⟩])
  (.seq (.seq (.reg [⟨(some 15), none, .e (.call 11 [])⟩, ⟨(some 16), none, .p (.un .not (.tmp 15))⟩])
  (.cond (.tmp 16) (.seq (.reg [⟨(some 4), none, .p (.mov (.const (.bool false)))⟩])
  .ret) .skip))
  (.seq (.seq (.reg [⟨(some 17), none, .p (.mov (.tmp 0))⟩, ⟨(some 18), none, .p (.len 0 (.tmp 17))⟩, ⟨(some 19), none, .p (.bin .gtr (.tmp 18) (.const (.int .i64 2000)))⟩, ⟨(some 20), none, .p (.mov (.tmp 19))⟩, ⟨(some 21), (some (20, false)), .p (.mov (.tmp 1))⟩, ⟨(some 22), (some (20, false)), .p (.len 0 (.tmp 21))⟩, ⟨(some 23), (some (20, false)), .p (.bin .gtr (.tmp 22) (.const (.int .i64 2000)))⟩, ⟨(some 24), none, .p (.pick (.tmp 20) (.const (.bool true)) (.tmp 23))⟩])
  (.cond (.tmp 24) (.seq (.reg [⟨(some 4), none, .p (.mov (.const (.bool true)))⟩])
  .ret) .skip))
  (.seq (.reg [⟨(some 26), none, .p (.mov (.tmp 0))⟩, ⟨(some 27), none, .e (.call 29 [(.tmp 26)])⟩, ⟨(some 25), none, .p (.mov (.tmp 27))⟩, ⟨(some 28), none, .p (.ext (.tmp 25) 0)⟩, ⟨(some 29), none, .p (.ext (.tmp 25) 1)⟩, ⟨(some 30), none, .p (.ext (.tmp 25) 2)⟩, ⟨(some 5), none, .e (.alc [(.slice none 0 0), (.slice none 0 0)])⟩, ⟨none, none, .e (.st 2 (.tmp 5) (.tmp 28))⟩, ⟨(some 6), none, .p (.mov (.tmp 29))⟩, ⟨(some 7), none, .p (.mov (.tmp 30))⟩])
  (.seq (.seq (.reg [⟨(some 31), none, .p (.mov (.tmp 7))⟩, ⟨(some 32), none, .p (.bin .eql (.tmp 31) (.const (.int .i64 0)))⟩])
  (.cond (.tmp 32) (.seq (.reg [⟨(some 34), none, .p (.ld (some 2) (.tmp 5))⟩, ⟨(some 35), none, .e (.call 28 [(.tmp 34)])⟩, ⟨(some 33), none, .p (.mov (.tmp 35))⟩, ⟨(some 36), none, .p (.ext (.tmp 33) 0)⟩, ⟨(some 37), none, .p (.ext (.tmp 33) 1)⟩, ⟨(some 8), none, .p (.mov (.tmp 36))⟩, ⟨(some 9), none, .p (.mov (.tmp 37))⟩])
  (.seq (.reg [⟨(some 38), none, .p (.mov (.tmp 9))⟩, ⟨(some 39), none, .p (.bin .eql (.tmp 38) (.const (.int .i64 0)))⟩, ⟨(some 40), none, .p (.mov (.tmp 39))⟩, ⟨(some 41), (some (40, true)), .p (.mov (.tmp 8))⟩, ⟨(some 42), (some (40, true)), .p (.mov (.tmp 0))⟩, ⟨(some 43), (some (40, true)), .p (.bin .eql (.tmp 41) (.tmp 42))⟩, ⟨(some 44), none, .p (.pick (.tmp 40) (.tmp 43) (.const (.bool false)))⟩, ⟨(some 45), none, .p (.mov (.tmp 44))⟩, ⟨(some 46), (some (45, true)), .p (.mov (.tmp 6))⟩, ⟨(some 47), (some (45, true)), .p (.bin .eql (.tmp 46) (.const (.int .i64 0)))⟩, ⟨(some 48), none, .p (.pick (.tmp 45) (.tmp 47) (.const (.bool false)))⟩, ⟨(some 49), none, .p (.mov (.tmp 48))⟩, ⟨(some 50), (some (49, true)), .p (.ld (some 2) (.tmp 5))⟩, ⟨(some 51), (some (49, true)), .e (.call 13 [(.tmp 50)])⟩, ⟨(some 52), (some (49, true)), .p (.bin .eql (.tmp 51) (.const (.int .i64 0)))⟩, ⟨(some 53), none, .p (.pick (.tmp 49) (.tmp 52) (.const (.bool false)))⟩, ⟨(some 4), none, .p (.mov (.tmp 53))⟩])
  .ret)) .skip))
  (.seq (.seq (.reg [⟨(some 54), none, .p (.ld (some 2) (.tmp 5))⟩, ⟨(some 55), none, .p (.bld [(.slice none 0 0), (.slice none 0 0)] [])⟩, ⟨(some 56), none, .e (.call 31 [(.tmp 54), (.tmp 55)])⟩, ⟨(some 57), none, .p (.un .not (.tmp 56))⟩, ⟨(some 58), none, .p (.mov (.tmp 57))⟩, ⟨(some 59), (some (58, false)), .p (.mov (.tmp 6))⟩, ⟨(some 60), (some (58, false)), .p (.bin .lss (.tmp 59) (.const (.int .i64 0)))⟩, ⟨(some 61), none, .p (.pick (.tmp 58) (.const (.bool true)) (.tmp 60))⟩])
  (.cond (.tmp 61) (.seq (.reg [⟨(some 4), none, .p (.mov (.const (.bool false)))⟩])
  .ret) .skip))
  (.seq (.seq (.reg [⟨(some 62), none, .p (.mov (.tmp 7))⟩, ⟨(some 63), none, .p (.bin .neq (.tmp 62) (.const (.int .i64 3)))⟩, ⟨(some 64), none, .p (.mov (.tmp 63))⟩, ⟨(some 65), (some (64, false)), .p (.mov (.tmp 6))⟩, ⟨(some 66), (some (64, false)), .p (.bin .eql (.tmp 65) (.const (.int .i64 0)))⟩, ⟨(some 67), none, .p (.pick (.tmp 64) (.const (.bool true)) (.tmp 66))⟩])
  (.cond (.tmp 67) (.seq (.reg [⟨(some 4), none, .p (.mov (.const (.bool true)))⟩])
  .ret) .skip))
  (.seq (.reg [⟨(some 68), none, .p (.mov (.tmp 0))⟩, ⟨(some 69), none, .e (.call 32 [(.tmp 68), (.const (.string ⟨#[10]⟩))])⟩, ⟨(some 10), none, .p (.mov (.tmp 69))⟩])
  (.seq (.seq (.reg [⟨(some 70), none, .p (.mov (.tmp 6))⟩, ⟨(some 71), none, .p (.mov (.tmp 10))⟩, ⟨(some 72), none, .p (.len 1 (.tmp 71))⟩, ⟨(some 73), none, .p (.bin .gtr (.tmp 70) (.tmp 72))⟩])
  (.cond (.tmp 73) (.seq (.reg [⟨(some 4), none, .p (.mov (.const (.bool false)))⟩])
  .ret) .skip))
  (.seq (.reg [⟨(some 74), none, .p (.mov (.tmp 10))⟩, ⟨(some 75), none, .p (.mov (.tmp 6))⟩, ⟨(some 76), none, .p (.slc 1 (.tmp 74) none (some (.tmp 75)))⟩, ⟨(some 77), none, .e (.call 33 [(.tmp 76), (.const (.string ⟨#[]⟩))])⟩, ⟨(some 11), none, .p (.mov (.tmp 77))⟩])
  (.seq (.seq (.reg [⟨(some 78), none, .p (.mov (.tmp 11))⟩, ⟨(some 79), none, .e (.call 34 [(.tmp 78), (.const (.string ⟨#[10]⟩))])⟩, ⟨(some 80), none, .p (.un .not (.tmp 79))⟩])
  (.cond (.tmp 80) (.seq (.reg [⟨(some 4), none, .p (.mov (.const (.bool true)))⟩])
  .ret) .skip))
  (.seq (.reg [⟨(some 82), none, .p (.mov (.tmp 11))⟩, ⟨(some 83), none, .p (.mov (.tmp 1))⟩, ⟨(some 84), none, .p (.bin .add (.tmp 82) (.tmp 83))⟩, ⟨(some 85), none, .e (.call 29 [(.tmp 84)])⟩, ⟨(some 81), none, .p (.mov (.tmp 85))⟩, ⟨(some 86), none, .p (.ext (.tmp 81) 0)⟩, ⟨(some 87), none, .p (.ext (.tmp 81) 1)⟩, ⟨(some 88), none, .p (.ext (.tmp 81) 2)⟩, ⟨(some 12), none, .e (.alc [(.slice none 0 0), (.slice none 0 0)])⟩, ⟨none, none, .e (.st 2 (.tmp 12) (.tmp 86))⟩, ⟨(some 13), none, .p (.mov (.tmp 87))⟩, ⟨(some 14), none, .p (.mov (.tmp 88))⟩])
  (.seq (.reg [⟨(some 89), none, .p (.mov (.tmp 13))⟩, ⟨(some 90), none, .p (.mov (.tmp 6))⟩, ⟨(some 91), none, .p (.bin .eql (.tmp 89) (.tmp 90))⟩, ⟨(some 92), none, .p (.mov (.tmp 91))⟩, ⟨(some 93), (some (92, true)), .p (.mov (.tmp 14))⟩, ⟨(some 94), (some (92, true)), .p (.bin .eql (.tmp 93) (.const (.int .i64 3)))⟩, ⟨(some 95), none, .p (.pick (.tmp 92) (.tmp 94) (.const (.bool false)))⟩, ⟨(some 4), none, .p (.mov (.tmp 95))⟩])
  .ret)))))))))))))
def rf10 : List RX := [.tmp 4]
set_option maxRecDepth 100000 in
theorem comp10 : cFn Tryd.prog Tryd.f10 = some (erase cf10, rf10) := by kernel_rfl
end Go.Proofs.YtchpncmmlhfemaaDoor
namespace Go.Proofs.YtchpncmmlhfemaaDoor
/-- fairlink fairlinklaw14.awake -/
def cf11 : LC :=
  (.seq (.reg [⟨(some 0), none, .p (.mov (.const (.bool false)))⟩])
  (.seq (.reg [⟨(some 8), none, .e (.call 35 [])⟩, ⟨(some 9), none, .e (.call 28 [(.tmp 8)])⟩, ⟨(some 7), none, .p (.mov (.tmp 9))⟩, ⟨(some 10), none, .p (.ext (.tmp 7) 0)⟩, ⟨(some 11), none, .p (.ext (.tmp 7) 1)⟩, ⟨(some 1), none, .p (.mov (.tmp 10))⟩, ⟨(some 2), none, .p (.mov (.tmp 11))⟩])
  (.seq (.reg [⟨(some 13), none, .e (.call 35 [])⟩, ⟨(some 14), none, .e (.call 18 [(.tmp 13), (.const (.int .i64 1)), (.const (.int .i64 0))])⟩, ⟨(some 12), none, .p (.mov (.tmp 14))⟩, ⟨(some 15), none, .p (.ext (.tmp 12) 0)⟩, ⟨(some 16), none, .p (.ext (.tmp 12) 1)⟩, ⟨(some 17), none, .p (.ext (.tmp 12) 2)⟩, ⟨(some 18), none, .p (.ext (.tmp 12) 3)⟩, ⟨(some 3), none, .p (.mov (.tmp 15))⟩, ⟨(some 4), none, .p (.mov (.tmp 16))⟩, ⟨(some 5), none, .p (.mov (.tmp 17))⟩, ⟨(some 6), none, .p (.mov (.tmp 18))⟩])
  (.seq (.reg [⟨(some 19), none, .p (.mov (.tmp 2))⟩, ⟨(some 20), none, .p (.bin .eql (.tmp 19) (.const (.int .i64 0)))⟩, ⟨(some 21), none, .p (.mov (.tmp 20))⟩, ⟨(some 22), (some (21, true)), .p (.mov (.tmp 1))⟩, ⟨(some 23), (some (21, true)), .p (.bin .eql (.tmp 22) (.const (.string ⟨#[115, 119, 105, 116, 99, 104, 32, 115, 49, 32, 50, 10, 101, 110, 100, 32, 101, 49, 10, 99, 97, 98, 108, 101, 32, 115, 49, 32, 49, 32, 101, 49, 32, 48, 32, 49, 32, 52, 10]⟩)))⟩, ⟨(some 24), none, .p (.pick (.tmp 21) (.tmp 23) (.const (.bool false)))⟩, ⟨(some 25), none, .p (.mov (.tmp 24))⟩, ⟨(some 26), (some (25, true)), .p (.mov (.tmp 6))⟩, ⟨(some 27), none, .p (.pick (.tmp 25) (.tmp 26) (.const (.bool false)))⟩, ⟨(some 28), none, .p (.mov (.tmp 27))⟩, ⟨(some 29), (some (28, true)), .p (.mov (.tmp 3))⟩, ⟨(some 30), (some (28, true)), .p (.bin .eql (.tmp 29) (.const (.int .i64 0)))⟩, ⟨(some 31), none, .p (.pick (.tmp 28) (.tmp 30) (.const (.bool false)))⟩, ⟨(some 32), none, .p (.mov (.tmp 31))⟩, ⟨(some 33), (some (32, true)), .p (.mov (.tmp 4))⟩, ⟨(some 34), (some (32, true)), .p (.bin .eql (.tmp 33) (.const (.int .i64 1)))⟩, ⟨(some 35), none, .p (.pick (.tmp 32) (.tmp 34) (.const (.bool false)))⟩, ⟨(some 36), none, .p (.mov (.tmp 35))⟩, ⟨(some 37), (some (36, true)), .p (.mov (.tmp 5))⟩, ⟨(some 38), (some (36, true)), .p (.bin .eql (.tmp 37) (.const (.int .i64 0)))⟩, ⟨(some 39), none, .p (.pick (.tmp 36) (.tmp 38) (.const (.bool false)))⟩, ⟨(some 40), none, .p (.mov (.tmp 39))⟩, ⟨(some 41), (some (40, true)), .e (.call 35 [])⟩, ⟨(some 42), (some (40, true)), .e (.bsl 2 1 1 [(.bool false)] [(0, 1, (.const (.bool true)))])⟩, ⟨(some 43), (some (40, true)), .e (.call 22 [(.tmp 41), (.tmp 42)])⟩, ⟨(some 44), none, .p (.pick (.tmp 40) (.tmp 43) (.const (.bool false)))⟩, ⟨(some 45), none, .p (.mov (.tmp 44))⟩, ⟨(some 46), (some (45, true)), .e (.call 35 [])⟩, ⟨(some 47), (some (45, true)), .e (.bsl 2 1 1 [(.bool false)] [(0, 1, (.const (.bool false)))])⟩, ⟨(some 48), (some (45, true)), .e (.call 22 [(.tmp 46), (.tmp 47)])⟩, ⟨(some 49), (some (45, true)), .p (.un .not (.tmp 48))⟩, ⟨(some 50), none, .p (.pick (.tmp 45) (.tmp 49) (.const (.bool false)))⟩, ⟨(some 0), none, .p (.mov (.tmp 50))⟩])
  .ret))))
def rf11 : List RX := [.tmp 0]
set_option maxRecDepth 100000 in
theorem comp11 : cFn Tryd.prog Tryd.f11 = some (erase cf11, rf11) := by kernel_rfl
/-- fairlink fairlinklaw14.great -/
def cf12 : LC :=
  (.seq (.reg [⟨(some 1), none, .e (.box (.tmp 0))⟩, ⟨(some 2), none, .p (.mov (.const (.bool false)))⟩])
  (.seq (.reg [⟨(some 3), none, .p (.fad 0 (.tmp 1))⟩, ⟨(some 4), none, .p (.ld none (.tmp 3))⟩, ⟨(some 5), none, .p (.len 1 (.tmp 4))⟩, ⟨(some 6), none, .p (.bin .gtr (.tmp 5) (.const (.int .i64 20)))⟩, ⟨(some 7), none, .p (.mov (.tmp 6))⟩, ⟨(some 8), (some (7, false)), .p (.fad 1 (.tmp 1))⟩, ⟨(some 9), (some (7, false)), .p (.ld none (.tmp 8))⟩, ⟨(some 10), (some (7, false)), .p (.len 1 (.tmp 9))⟩, ⟨(some 11), (some (7, false)), .p (.bin .gtr (.tmp 10) (.const (.int .i64 40)))⟩, ⟨(some 12), none, .p (.pick (.tmp 7) (.const (.bool true)) (.tmp 11))⟩, ⟨(some 2), none, .p (.mov (.tmp 12))⟩])
  .ret))
def rf12 : List RX := [.tmp 2]
set_option maxRecDepth 100000 in
theorem comp12 : cFn Tryd.prog Tryd.f12 = some (erase cf12, rf12) := by kernel_rfl
/-- fairlink fairlinklaw14.GraphSteps 1 -/
def cf27 : LC :=
  (.seq (.reg [⟨(some 7), none, .p (.mov (.const (.bool false)))⟩])
  (.seq (.seq (.reg [⟨(some 8), none, .p (.mov (.tmp 0))⟩, ⟨(some 9), none, .p (.bin .lss (.tmp 8) (.const (.int .i64 0)))⟩, ⟨(some 10), none, .p (.mov (.tmp 9))⟩, ⟨(some 11), (some (10, false)), .p (.mov (.tmp 0))⟩, ⟨(some 12), (some (10, false)), .p (.ld none (.tmp 1))⟩, ⟨(some 13), (some (10, false)), .p (.len 1 (.tmp 12))⟩, ⟨(some 14), (some (10, false)), .p (.bin .geq (.tmp 11) (.tmp 13))⟩, ⟨(some 15), none, .p (.pick (.tmp 10) (.const (.bool true)) (.tmp 14))⟩, ⟨(some 16), none, .p (.mov (.tmp 15))⟩, ⟨(some 17), (some (16, false)), .p (.ld none (.tmp 1))⟩, ⟨(some 18), (some (16, false)), .p (.mov (.tmp 0))⟩, ⟨(some 19), (some (16, false)), .p (.iad 1 (.tmp 17) (.tmp 18))⟩, ⟨(some 20), (some (16, false)), .p (.ld none (.tmp 19))⟩, ⟨(some 21), (some (16, false)), .p (.un .not (.tmp 20))⟩, ⟨(some 22), none, .p (.pick (.tmp 16) (.const (.bool true)) (.tmp 21))⟩])
  (.cond (.tmp 22) (.seq (.reg [⟨(some 7), none, .p (.mov (.const (.bool false)))⟩])
  .ret) .skip))
  (.seq (.dreg [⟨(some 23), none, .p (.ld none (.tmp 2))⟩, ⟨(some 24), none, .p (.fad 1 (.tmp 3))⟩, ⟨(some 25), none, .p (.ld none (.tmp 24))⟩, ⟨(some 26), none, .p (.mov (.tmp 0))⟩, ⟨(some 27), none, .p (.iad 6 (.tmp 25) (.tmp 26))⟩, ⟨(some 28), none, .p (.ld (some 6) (.tmp 27))⟩, ⟨(some 29), none, .p (.ld none (.tmp 4))⟩, ⟨(some 30), none, .e (.call 20 [(.tmp 28), (.tmp 29)])⟩, ⟨(some 31), none, .p (.iad 1 (.tmp 23) (.tmp 30))⟩, ⟨(some 32), none, .p (.ld none (.tmp 31))⟩, ⟨(some 33), none, .p (.ld none (.tmp 5))⟩, ⟨(some 34), none, .p (.bin .sub (.tmp 33) (.const (.int .i64 1)))⟩, ⟨(some 35), none, .p (.bin .eql (.tmp 32) (.tmp 34))⟩] [[⟨(some 7), none, .p (.mov (.tmp 35))⟩]])
  .ret)))
def rf27 : List RX := [.tmp 7]
set_option maxRecDepth 100000 in
theorem comp27 : cFn Tryd.prog Tryd.f27 = some (erase cf27, rf27) := by kernel_rfl
/-- fairlink fairlinklaw14.same -/
def cf31 : LC :=
  (.seq (.reg [⟨(some 2), none, .e (.box (.tmp 0))⟩, ⟨(some 3), none, .e (.box (.tmp 1))⟩, ⟨(some 4), none, .p (.mov (.const (.bool false)))⟩])
  (.seq (.reg [⟨(some 5), none, .p (.fad 0 (.tmp 2))⟩, ⟨(some 6), none, .p (.ld none (.tmp 5))⟩, ⟨(some 7), none, .p (.fad 0 (.tmp 3))⟩, ⟨(some 8), none, .p (.ld none (.tmp 7))⟩, ⟨(some 9), none, .e (.call 52 [(.tmp 6), (.tmp 8)])⟩, ⟨(some 10), none, .p (.mov (.tmp 9))⟩, ⟨(some 11), (some (10, true)), .p (.fad 1 (.tmp 2))⟩, ⟨(some 12), (some (10, true)), .p (.ld none (.tmp 11))⟩, ⟨(some 13), (some (10, true)), .p (.fad 1 (.tmp 3))⟩, ⟨(some 14), (some (10, true)), .p (.ld none (.tmp 13))⟩, ⟨(some 15), (some (10, true)), .e (.call 53 [(.tmp 12), (.tmp 14)])⟩, ⟨(some 16), none, .p (.pick (.tmp 10) (.tmp 15) (.const (.bool false)))⟩, ⟨(some 4), none, .p (.mov (.tmp 16))⟩])
  .ret))
def rf31 : List RX := [.tmp 4]
set_option maxRecDepth 100000 in
theorem comp31 : cFn Tryd.prog Tryd.f31 = some (erase cf31, rf31) := by kernel_rfl
/-- fairlink fairlinklaw14.example -/
def cf35 : LC :=
  (.seq (.reg [⟨(some 0), none, .e (.alc [(.slice none 0 0), (.slice none 0 0)])⟩])
  (.seq (.reg [⟨(some 1), none, .p (.bld [(.string ⟨#[]⟩), (.bool false), (.int .i64 0)] [(0, 1, (.const (.string ⟨#[115, 49]⟩))), (1, 1, (.const (.bool true))), (2, 1, (.const (.int .i64 2)))])⟩, ⟨(some 2), none, .p (.bld [(.string ⟨#[]⟩), (.bool false), (.int .i64 0)] [(0, 1, (.const (.string ⟨#[101, 49]⟩))), (2, 1, (.const (.int .i64 1)))])⟩, ⟨(some 3), none, .e (.bsl 0 2 3 [(.string ⟨#[]⟩), (.bool false), (.int .i64 0)] [(0, 3, (.tmp 1)), (3, 3, (.tmp 2))])⟩, ⟨(some 4), none, .p (.bld [(.int .i64 0), (.int .i64 0), (.int .i64 0), (.int .i64 0), (.int .i64 0), (.int .i64 0)] [(1, 1, (.const (.int .i64 1))), (2, 1, (.const (.int .i64 1))), (4, 1, (.const (.int .i64 1))), (5, 1, (.const (.int .i64 4)))])⟩, ⟨(some 5), none, .e (.bsl 0 1 6 [(.int .i64 0), (.int .i64 0), (.int .i64 0), (.int .i64 0), (.int .i64 0), (.int .i64 0)] [(0, 6, (.tmp 4))])⟩, ⟨(some 6), none, .p (.bld [(.slice none 0 0), (.slice none 0 0)] [(0, 1, (.tmp 3)), (1, 1, (.tmp 5))])⟩, ⟨none, none, .e (.st 2 (.tmp 0) (.tmp 6))⟩])
  .ret))
def rf35 : List RX := [.cell 0 (some 2)]
set_option maxRecDepth 100000 in
theorem comp35 : cFn Tryd.prog Tryd.f35 = some (erase cf35, rf35) := by kernel_rfl
end Go.Proofs.YtchpncmmlhfemaaDoor
namespace Go.Proofs.YtchpncmmlhfemaaDoor
def lb14_0 : LC :=
  (.seq (.seq (.reg [⟨(some 110), none, .p (.mov (.tmp 8))⟩, ⟨(some 111), none, .p (.fad 1 (.tmp 1))⟩, ⟨(some 112), none, .p (.ld none (.tmp 111))⟩, ⟨(some 113), none, .p (.len 1 (.tmp 112))⟩, ⟨(some 114), none, .p (.bin .lss (.tmp 110) (.tmp 113))⟩])
  (.cond (.tmp 114) .skip (.exit 6)))
  (.seq (.block 7
  (.seq (.reg [⟨(some 117), none, .p (.fad 1 (.tmp 1))⟩, ⟨(some 118), none, .p (.ld none (.tmp 117))⟩, ⟨(some 119), none, .p (.mov (.tmp 8))⟩, ⟨(some 120), none, .p (.iad 6 (.tmp 118) (.tmp 119))⟩, ⟨(some 121), none, .p (.ld (some 6) (.tmp 120))⟩, ⟨(some 9), none, .e (.alc [(.int .i64 0), (.int .i64 0), (.int .i64 0), (.int .i64 0), (.int .i64 0), (.int .i64 0)])⟩, ⟨none, none, .e (.st 6 (.tmp 9) (.tmp 121))⟩])
  (.seq (.reg [⟨(some 122), none, .p (.fad 4 (.tmp 9))⟩, ⟨(some 123), none, .p (.ld none (.tmp 122))⟩, ⟨(some 124), none, .p (.bin .lss (.tmp 123) (.const (.int .i64 1)))⟩, ⟨(some 125), none, .p (.mov (.tmp 124))⟩, ⟨(some 126), (some (125, false)), .p (.fad 4 (.tmp 9))⟩, ⟨(some 127), (some (125, false)), .p (.ld none (.tmp 126))⟩, ⟨(some 128), (some (125, false)), .p (.bin .gtr (.tmp 127) (.const (.int .i64 100)))⟩, ⟨(some 129), none, .p (.pick (.tmp 125) (.const (.bool true)) (.tmp 128))⟩, ⟨(some 130), none, .p (.mov (.tmp 129))⟩, ⟨(some 131), (some (130, false)), .p (.fad 5 (.tmp 9))⟩, ⟨(some 132), (some (130, false)), .p (.ld none (.tmp 131))⟩, ⟨(some 133), (some (130, false)), .p (.bin .lss (.tmp 132) (.const (.int .i64 1)))⟩, ⟨(some 134), none, .p (.pick (.tmp 130) (.const (.bool true)) (.tmp 133))⟩, ⟨(some 135), none, .p (.mov (.tmp 134))⟩, ⟨(some 136), (some (135, false)), .p (.fad 5 (.tmp 9))⟩, ⟨(some 137), (some (135, false)), .p (.ld none (.tmp 136))⟩, ⟨(some 138), (some (135, false)), .p (.bin .gtr (.tmp 137) (.const (.int .i64 1000)))⟩, ⟨(some 139), none, .p (.pick (.tmp 135) (.const (.bool true)) (.tmp 138))⟩])
  (.cond (.tmp 139) (.seq (.reg [⟨(some 2), none, .p (.mov (.const (.int .i64 3)))⟩])
  .ret) .skip))))
  (.reg [⟨(some 115), none, .p (.mov (.tmp 8))⟩, ⟨(some 116), none, .p (.bin .add (.tmp 115) (.const (.int .i64 1)))⟩, ⟨(some 8), none, .p (.mov (.tmp 116))⟩])))
def lb14_1 : LC :=
  (.seq (.seq (.reg [⟨(some 90), none, .p (.mov (.tmp 7))⟩, ⟨(some 91), none, .p (.fad 1 (.tmp 1))⟩, ⟨(some 92), none, .p (.ld none (.tmp 91))⟩, ⟨(some 93), none, .p (.len 1 (.tmp 92))⟩, ⟨(some 94), none, .p (.bin .lss (.tmp 90) (.tmp 93))⟩])
  (.cond (.tmp 94) .skip (.exit 4)))
  (.seq (.block 5
  (.seq (.dreg [⟨(some 97), none, .p (.fad 1 (.tmp 1))⟩, ⟨(some 98), none, .p (.ld none (.tmp 97))⟩, ⟨(some 99), none, .p (.mov (.tmp 7))⟩, ⟨(some 100), none, .p (.iad 6 (.tmp 98) (.tmp 99))⟩, ⟨(some 101), none, .p (.fad 0 (.tmp 100))⟩, ⟨(some 102), none, .p (.ld none (.tmp 101))⟩, ⟨(some 103), none, .p (.fad 1 (.tmp 1))⟩, ⟨(some 104), none, .p (.ld none (.tmp 103))⟩, ⟨(some 105), none, .p (.mov (.tmp 7))⟩, ⟨(some 106), none, .p (.iad 6 (.tmp 104) (.tmp 105))⟩, ⟨(some 107), none, .p (.fad 2 (.tmp 106))⟩, ⟨(some 108), none, .p (.ld none (.tmp 107))⟩] [[⟨(some 109), none, .p (.bin .eql (.tmp 102) (.tmp 108))⟩]])
  (.cond (.tmp 109) (.seq (.reg [⟨(some 2), none, .p (.mov (.const (.int .i64 12)))⟩])
  .ret) .skip)))
  (.reg [⟨(some 95), none, .p (.mov (.tmp 7))⟩, ⟨(some 96), none, .p (.bin .add (.tmp 95) (.const (.int .i64 1)))⟩, ⟨(some 7), none, .p (.mov (.tmp 96))⟩])))
def lb14_2 : LC :=
  (.seq (.seq (.reg [⟨(some 60), none, .p (.mov (.tmp 5))⟩, ⟨(some 61), none, .p (.fad 1 (.tmp 1))⟩, ⟨(some 62), none, .p (.ld none (.tmp 61))⟩, ⟨(some 63), none, .p (.len 1 (.tmp 62))⟩, ⟨(some 64), none, .p (.bin .lss (.tmp 60) (.tmp 63))⟩])
  (.cond (.tmp 64) .skip (.exit 2)))
  (.seq (.block 3
  (.seq (.reg [⟨(some 67), none, .p (.fad 1 (.tmp 1))⟩, ⟨(some 68), none, .p (.ld none (.tmp 67))⟩, ⟨(some 69), none, .p (.mov (.tmp 5))⟩, ⟨(some 70), none, .p (.iad 6 (.tmp 68) (.tmp 69))⟩, ⟨(some 71), none, .p (.ld (some 6) (.tmp 70))⟩, ⟨(some 6), none, .e (.alc [(.int .i64 0), (.int .i64 0), (.int .i64 0), (.int .i64 0), (.int .i64 0), (.int .i64 0)])⟩, ⟨none, none, .e (.st 6 (.tmp 6) (.tmp 71))⟩])
  (.seq (.reg [⟨(some 72), none, .p (.ld (some 2) (.tmp 1))⟩, ⟨(some 73), none, .p (.fad 0 (.tmp 6))⟩, ⟨(some 74), none, .p (.ld none (.tmp 73))⟩, ⟨(some 75), none, .p (.fad 1 (.tmp 6))⟩, ⟨(some 76), none, .p (.ld none (.tmp 75))⟩, ⟨(some 77), none, .e (.call 40 [(.tmp 72), (.tmp 74), (.tmp 76)])⟩, ⟨(some 78), none, .p (.un .not (.tmp 77))⟩, ⟨(some 79), none, .p (.mov (.tmp 78))⟩, ⟨(some 80), (some (79, false)), .p (.ld (some 2) (.tmp 1))⟩, ⟨(some 81), (some (79, false)), .p (.fad 2 (.tmp 6))⟩, ⟨(some 82), (some (79, false)), .p (.ld none (.tmp 81))⟩, ⟨(some 83), (some (79, false)), .p (.fad 3 (.tmp 6))⟩, ⟨(some 84), (some (79, false)), .p (.ld none (.tmp 83))⟩, ⟨(some 85), (some (79, false)), .e (.call 40 [(.tmp 80), (.tmp 82), (.tmp 84)])⟩, ⟨(some 86), (some (79, false)), .p (.un .not (.tmp 85))⟩, ⟨(some 87), none, .p (.pick (.tmp 79) (.const (.bool true)) (.tmp 86))⟩])
  (.cond (.tmp 87) (.seq (.reg [⟨(some 2), none, .p (.mov (.const (.int .i64 2)))⟩])
  .ret) .skip))))
  (.reg [⟨(some 65), none, .p (.mov (.tmp 5))⟩, ⟨(some 66), none, .p (.bin .add (.tmp 65) (.const (.int .i64 1)))⟩, ⟨(some 5), none, .p (.mov (.tmp 66))⟩])))
def lb14_3 : LC :=
  (.seq (.seq (.reg [⟨(some 20), none, .p (.mov (.tmp 3))⟩, ⟨(some 21), none, .p (.fad 0 (.tmp 1))⟩, ⟨(some 22), none, .p (.ld none (.tmp 21))⟩, ⟨(some 23), none, .p (.len 1 (.tmp 22))⟩, ⟨(some 24), none, .p (.bin .lss (.tmp 20) (.tmp 23))⟩])
  (.cond (.tmp 24) .skip (.exit 0)))
  (.seq (.block 1
  (.seq (.reg [⟨(some 27), none, .p (.fad 0 (.tmp 1))⟩, ⟨(some 28), none, .p (.ld none (.tmp 27))⟩, ⟨(some 29), none, .p (.mov (.tmp 3))⟩, ⟨(some 30), none, .p (.iad 3 (.tmp 28) (.tmp 29))⟩, ⟨(some 31), none, .p (.ld (some 3) (.tmp 30))⟩, ⟨(some 4), none, .e (.alc [(.string ⟨#[]⟩), (.bool false), (.int .i64 0)])⟩, ⟨none, none, .e (.st 3 (.tmp 4) (.tmp 31))⟩])
  (.seq (.reg [⟨(some 32), none, .p (.fad 0 (.tmp 4))⟩, ⟨(some 33), none, .p (.ld none (.tmp 32))⟩, ⟨(some 34), none, .e (.call 39 [(.tmp 33)])⟩, ⟨(some 35), none, .p (.un .not (.tmp 34))⟩, ⟨(some 36), none, .p (.mov (.tmp 35))⟩, ⟨(some 37), (some (36, false)), .p (.fad 1 (.tmp 4))⟩, ⟨(some 38), (some (36, false)), .p (.ld none (.tmp 37))⟩, ⟨(some 39), (some (36, false)), .p (.mov (.tmp 38))⟩, ⟨(some 40), (some (39, true)), .p (.fad 2 (.tmp 4))⟩, ⟨(some 41), (some (39, true)), .p (.ld none (.tmp 40))⟩, ⟨(some 42), (some (39, true)), .p (.bin .lss (.tmp 41) (.const (.int .i64 1)))⟩, ⟨(some 43), (some (39, true)), .p (.mov (.tmp 42))⟩, ⟨(some 44), (some (43, false)), .p (.fad 2 (.tmp 4))⟩, ⟨(some 45), (some (43, false)), .p (.ld none (.tmp 44))⟩, ⟨(some 46), (some (43, false)), .p (.bin .gtr (.tmp 45) (.const (.int .i64 8)))⟩, ⟨(some 47), (some (39, true)), .p (.pick (.tmp 43) (.const (.bool true)) (.tmp 46))⟩, ⟨(some 48), (some (36, false)), .p (.pick (.tmp 39) (.tmp 47) (.const (.bool false)))⟩, ⟨(some 49), none, .p (.pick (.tmp 36) (.const (.bool true)) (.tmp 48))⟩, ⟨(some 50), none, .p (.mov (.tmp 49))⟩, ⟨(some 51), (some (50, false)), .p (.fad 1 (.tmp 4))⟩, ⟨(some 52), (some (50, false)), .p (.ld none (.tmp 51))⟩, ⟨(some 53), (some (50, false)), .p (.un .not (.tmp 52))⟩, ⟨(some 54), (some (50, false)), .p (.mov (.tmp 53))⟩, ⟨(some 55), (some (54, true)), .p (.fad 2 (.tmp 4))⟩, ⟨(some 56), (some (54, true)), .p (.ld none (.tmp 55))⟩, ⟨(some 57), (some (54, true)), .p (.bin .neq (.tmp 56) (.const (.int .i64 1)))⟩, ⟨(some 58), (some (50, false)), .p (.pick (.tmp 54) (.tmp 57) (.const (.bool false)))⟩, ⟨(some 59), none, .p (.pick (.tmp 50) (.const (.bool true)) (.tmp 58))⟩])
  (.cond (.tmp 59) (.seq (.reg [⟨(some 2), none, .p (.mov (.const (.int .i64 1)))⟩])
  .ret) .skip))))
  (.reg [⟨(some 25), none, .p (.mov (.tmp 3))⟩, ⟨(some 26), none, .p (.bin .add (.tmp 25) (.const (.int .i64 1)))⟩, ⟨(some 3), none, .p (.mov (.tmp 26))⟩])))
/-- fairlink fairlinkref14.Valid -/
def cf14 : LC :=
  (.seq (.reg [⟨(some 1), none, .e (.box (.tmp 0))⟩, ⟨(some 2), none, .p (.mov (.const (.int .i64 0)))⟩])
  (.seq (.seq (.reg [⟨(some 10), none, .p (.fad 0 (.tmp 1))⟩, ⟨(some 11), none, .p (.ld none (.tmp 10))⟩, ⟨(some 12), none, .p (.len 1 (.tmp 11))⟩, ⟨(some 13), none, .p (.bin .gtr (.tmp 12) (.const (.int .i64 16)))⟩, ⟨(some 14), none, .p (.mov (.tmp 13))⟩, ⟨(some 15), (some (14, false)), .p (.fad 1 (.tmp 1))⟩, ⟨(some 16), (some (14, false)), .p (.ld none (.tmp 15))⟩, ⟨(some 17), (some (14, false)), .p (.len 1 (.tmp 16))⟩, ⟨(some 18), (some (14, false)), .p (.bin .gtr (.tmp 17) (.const (.int .i64 32)))⟩, ⟨(some 19), none, .p (.pick (.tmp 14) (.const (.bool true)) (.tmp 18))⟩])
  (.cond (.tmp 19) (.seq (.reg [⟨(some 2), none, .p (.mov (.const (.int .i64 5)))⟩])
  .ret) .skip))
  (.seq (.seq (.reg [⟨(some 3), none, .p (.mov (.const (.int .i64 0)))⟩])
  (.block 0
  (.loop lb14_3)))
  (.seq (.seq (.reg [⟨(some 5), none, .p (.mov (.const (.int .i64 0)))⟩])
  (.block 2
  (.loop lb14_2)))
  (.seq (.seq (.reg [⟨(some 88), none, .p (.ld (some 2) (.tmp 1))⟩, ⟨(some 89), none, .e (.call 41 [(.tmp 88)])⟩])
  (.cond (.tmp 89) (.seq (.reg [⟨(some 2), none, .p (.mov (.const (.int .i64 8)))⟩])
  .ret) .skip))
  (.seq (.seq (.reg [⟨(some 7), none, .p (.mov (.const (.int .i64 0)))⟩])
  (.block 4
  (.loop lb14_1)))
  (.seq (.seq (.reg [⟨(some 8), none, .p (.mov (.const (.int .i64 0)))⟩])
  (.block 6
  (.loop lb14_0)))
  (.seq (.reg [⟨(some 2), none, .p (.mov (.const (.int .i64 0)))⟩])
  .ret))))))))
def rf14 : List RX := [.tmp 2]
set_option maxRecDepth 100000 in
theorem comp14 : cFn Tryd.prog Tryd.f14 = some (erase cf14, rf14) := by kernel_rfl
/-- fairlink fairlinkref14.Other -/
def cf20 : LC :=
  (.seq (.reg [⟨(some 2), none, .e (.box (.tmp 0))⟩, ⟨(some 4), none, .p (.mov (.const (.int .i64 0)))⟩])
  (.seq (.seq (.reg [⟨(some 5), none, .p (.fad 0 (.tmp 2))⟩, ⟨(some 6), none, .p (.ld none (.tmp 5))⟩, ⟨(some 7), none, .p (.mov (.tmp 1))⟩, ⟨(some 8), none, .p (.bin .eql (.tmp 6) (.tmp 7))⟩])
  (.cond (.tmp 8) (.seq (.reg [⟨(some 9), none, .p (.fad 2 (.tmp 2))⟩, ⟨(some 10), none, .p (.ld none (.tmp 9))⟩, ⟨(some 4), none, .p (.mov (.tmp 10))⟩])
  .ret) .skip))
  (.seq (.seq (.reg [⟨(some 11), none, .p (.fad 2 (.tmp 2))⟩, ⟨(some 12), none, .p (.ld none (.tmp 11))⟩, ⟨(some 13), none, .p (.mov (.tmp 1))⟩, ⟨(some 14), none, .p (.bin .eql (.tmp 12) (.tmp 13))⟩])
  (.cond (.tmp 14) (.seq (.reg [⟨(some 15), none, .p (.fad 0 (.tmp 2))⟩, ⟨(some 16), none, .p (.ld none (.tmp 15))⟩, ⟨(some 4), none, .p (.mov (.tmp 16))⟩])
  .ret) .skip))
  (.seq (.reg [⟨(some 4), none, .p (.mov (.const (.int .i64 (-1))))⟩])
  .ret))))
def rf20 : List RX := [.tmp 4]
set_option maxRecDepth 100000 in
theorem comp20 : cFn Tryd.prog Tryd.f20 = some (erase cf20, rf20) := by kernel_rfl
def lb23_0 : LC :=
  (.seq (.seq (.reg [⟨(some 30), none, .p (.mov (.tmp 10))⟩, ⟨(some 31), none, .p (.mov (.tmp 9))⟩, ⟨(some 32), none, .p (.len 1 (.tmp 31))⟩, ⟨(some 33), none, .p (.bin .lss (.tmp 30) (.tmp 32))⟩])
  (.cond (.tmp 33) .skip (.exit 2)))
  (.seq (.block 3
  (.seq (.reg [⟨(some 36), none, .p (.mov (.tmp 9))⟩, ⟨(some 37), none, .p (.mov (.tmp 10))⟩, ⟨(some 38), none, .p (.iad 1 (.tmp 36) (.tmp 37))⟩, ⟨(some 39), none, .p (.ld none (.tmp 38))⟩, ⟨(some 40), none, .p (.bin .geq (.tmp 39) (.const (.int .i64 0)))⟩])
  (.cond (.tmp 40) (.seq (.reg [⟨(some 41), none, .p (.mov (.tmp 8))⟩, ⟨(some 42), none, .p (.mov (.tmp 10))⟩, ⟨(some 43), none, .e (.bsl 1 1 1 [(.int .i64 0)] [(0, 1, (.tmp 42))])⟩, ⟨(some 44), none, .e (.app 1 1 8 (.tmp 41) (.tmp 43))⟩, ⟨(some 8), none, .p (.mov (.tmp 44))⟩])
  (.reg [⟨(some 45), none, .p (.mov (.tmp 6))⟩, ⟨(some 46), none, .p (.mov (.tmp 10))⟩, ⟨(some 47), none, .p (.iad 1 (.tmp 45) (.tmp 46))⟩, ⟨none, none, .e (.st 1 (.tmp 47) (.const (.bool true)))⟩])) .skip)))
  (.reg [⟨(some 34), none, .p (.mov (.tmp 10))⟩, ⟨(some 35), none, .p (.bin .add (.tmp 34) (.const (.int .i64 1)))⟩, ⟨(some 10), none, .p (.mov (.tmp 35))⟩])))
def lb23_1 : LC :=
  (.seq (.seq (.reg [⟨(some 15), none, .p (.mov (.tmp 7))⟩, ⟨(some 16), none, .p (.fad 0 (.tmp 2))⟩, ⟨(some 17), none, .p (.ld none (.tmp 16))⟩, ⟨(some 18), none, .p (.len 1 (.tmp 17))⟩, ⟨(some 19), none, .p (.bin .lss (.tmp 15) (.tmp 18))⟩])
  (.cond (.tmp 19) .skip (.exit 0)))
  (.seq (.block 1
  (.seq (.seq (.reg [⟨(some 22), none, .p (.mov (.tmp 6))⟩, ⟨(some 23), none, .p (.mov (.tmp 7))⟩, ⟨(some 24), none, .p (.iad 1 (.tmp 22) (.tmp 23))⟩, ⟨(some 25), none, .p (.ld none (.tmp 24))⟩])
  (.cond (.tmp 25) (.exit 1) .skip))
  (.seq (.reg [⟨(some 8), none, .p (.mov (.const (.slice none 0 0)))⟩])
  (.seq (.reg [⟨(some 26), none, .p (.ld (some 2) (.tmp 2))⟩, ⟨(some 27), none, .p (.mov (.tmp 7))⟩, ⟨(some 28), none, .p (.mov (.tmp 1))⟩, ⟨(some 29), none, .e (.call 25 [(.tmp 26), (.tmp 27), (.tmp 28)])⟩, ⟨(some 9), none, .p (.mov (.tmp 29))⟩])
  (.seqj (.seq (.reg [⟨(some 10), none, .p (.mov (.const (.int .i64 0)))⟩])
  (.block 2
  (.loop lb23_0)))
  (.reg [⟨(some 48), none, .p (.mov (.tmp 5))⟩, ⟨(some 49), none, .p (.mov (.tmp 8))⟩, ⟨(some 50), none, .e (.bsr 1 1 [(.slice none 0 0)] [(0, 1, (.tmp 49))])⟩, ⟨(some 51), none, .e (.app 0 1 24 (.tmp 48) (.tmp 50))⟩, ⟨(some 5), none, .p (.mov (.tmp 51))⟩]))))))
  (.reg [⟨(some 20), none, .p (.mov (.tmp 7))⟩, ⟨(some 21), none, .p (.bin .add (.tmp 20) (.const (.int .i64 1)))⟩, ⟨(some 7), none, .p (.mov (.tmp 21))⟩])))
/-- fairlink fairlinkref14.Parts -/
def cf23 : LC :=
  (.seq (.reg [⟨(some 2), none, .e (.box (.tmp 0))⟩, ⟨(some 4), none, .p (.mov (.const (.slice none 0 0)))⟩])
  (.seq (.reg [⟨(some 5), none, .p (.mov (.const (.slice none 0 0)))⟩])
  (.seq (.reg [⟨(some 11), none, .p (.fad 0 (.tmp 2))⟩, ⟨(some 12), none, .p (.ld none (.tmp 11))⟩, ⟨(some 13), none, .p (.len 1 (.tmp 12))⟩, ⟨(some 14), none, .e (.mks 2 1 [(.bool false)] 1 (.tmp 13) (.tmp 13))⟩, ⟨(some 6), none, .p (.mov (.tmp 14))⟩])
  (.seq (.seq (.reg [⟨(some 7), none, .p (.mov (.const (.int .i64 0)))⟩])
  (.block 0
  (.loop lb23_1)))
  (.seq (.reg [⟨(some 52), none, .p (.mov (.tmp 5))⟩, ⟨(some 4), none, .p (.mov (.tmp 52))⟩])
  .ret)))))
def rf23 : List RX := [.tmp 4]
set_option maxRecDepth 100000 in
theorem comp23 : cFn Tryd.prog Tryd.f23 = some (erase cf23, rf23) := by kernel_rfl
def lb25_0 : LC :=
  (.seq (.seq (.reg [⟨(some 35), none, .p (.mov (.tmp 10))⟩, ⟨(some 36), none, .p (.fad 1 (.tmp 3))⟩, ⟨(some 37), none, .p (.ld none (.tmp 36))⟩, ⟨(some 38), none, .p (.len 1 (.tmp 37))⟩, ⟨(some 39), none, .p (.bin .lss (.tmp 35) (.tmp 38))⟩])
  (.cond (.tmp 39) .skip (.exit 4)))
  (.seq (.block 5
  (.seq (.seq (.reg [⟨(some 42), none, .p (.mov (.tmp 2))⟩, ⟨(some 43), none, .p (.mov (.tmp 10))⟩, ⟨(some 44), none, .p (.iad 1 (.tmp 42) (.tmp 43))⟩, ⟨(some 45), none, .p (.ld none (.tmp 44))⟩, ⟨(some 46), none, .p (.un .not (.tmp 45))⟩])
  (.cond (.tmp 46) (.exit 5) .skip))
  (.seq (.dreg [⟨(some 47), none, .p (.fad 1 (.tmp 3))⟩, ⟨(some 48), none, .p (.ld none (.tmp 47))⟩, ⟨(some 49), none, .p (.mov (.tmp 10))⟩, ⟨(some 50), none, .p (.iad 6 (.tmp 48) (.tmp 49))⟩, ⟨(some 51), none, .p (.fad 0 (.tmp 50))⟩, ⟨(some 52), none, .p (.ld none (.tmp 51))⟩, ⟨(some 53), none, .p (.fad 1 (.tmp 3))⟩, ⟨(some 54), none, .p (.ld none (.tmp 53))⟩, ⟨(some 55), none, .p (.mov (.tmp 10))⟩, ⟨(some 56), none, .p (.iad 6 (.tmp 54) (.tmp 55))⟩, ⟨(some 57), none, .p (.fad 2 (.tmp 56))⟩, ⟨(some 58), none, .p (.ld none (.tmp 57))⟩, ⟨(some 11), none, .p (.mov (.tmp 52))⟩] [[⟨(some 12), none, .p (.mov (.tmp 58))⟩]])
  (.seq (.seq (.dreg [⟨(some 59), none, .p (.mov (.tmp 7))⟩, ⟨(some 60), none, .p (.mov (.tmp 11))⟩, ⟨(some 61), none, .p (.iad 1 (.tmp 59) (.tmp 60))⟩, ⟨(some 62), none, .p (.ld none (.tmp 61))⟩, ⟨(some 63), none, .p (.bin .geq (.tmp 62) (.const (.int .i64 0)))⟩, ⟨(some 64), none, .p (.mov (.tmp 63))⟩, ⟨(some 65), (some (64, true)), .p (.mov (.tmp 7))⟩, ⟨(some 66), (some (64, true)), .p (.mov (.tmp 12))⟩, ⟨(some 67), (some (64, true)), .p (.iad 1 (.tmp 65) (.tmp 66))⟩, ⟨(some 68), (some (64, true)), .p (.ld none (.tmp 67))⟩, ⟨(some 69), (some (64, true)), .p (.bin .lss (.tmp 68) (.const (.int .i64 0)))⟩, ⟨(some 70), (some (64, true)), .p (.mov (.tmp 69))⟩, ⟨(some 71), (some (70, false)), .p (.mov (.tmp 7))⟩, ⟨(some 72), (some (70, false)), .p (.mov (.tmp 11))⟩, ⟨(some 73), (some (70, false)), .p (.iad 1 (.tmp 71) (.tmp 72))⟩, ⟨(some 74), (some (70, false)), .p (.ld none (.tmp 73))⟩, ⟨(some 75), (some (70, false)), .p (.bin .add (.tmp 74) (.const (.int .i64 1)))⟩, ⟨(some 76), (some (70, false)), .p (.mov (.tmp 7))⟩, ⟨(some 77), (some (70, false)), .p (.mov (.tmp 12))⟩, ⟨(some 78), (some (70, false)), .p (.iad 1 (.tmp 76) (.tmp 77))⟩, ⟨(some 79), (some (70, false)), .p (.ld none (.tmp 78))⟩, ⟨(some 80), (some (70, false)), .p (.bin .lss (.tmp 75) (.tmp 79))⟩, ⟨(some 81), (some (64, true)), .p (.pick (.tmp 70) (.const (.bool true)) (.tmp 80))⟩] [[⟨(some 82), none, .p (.pick (.tmp 64) (.tmp 81) (.const (.bool false)))⟩]])
  (.cond (.tmp 82) (.reg [⟨(some 83), none, .p (.mov (.tmp 7))⟩, ⟨(some 84), none, .p (.mov (.tmp 12))⟩, ⟨(some 85), none, .p (.mov (.tmp 7))⟩, ⟨(some 86), none, .p (.mov (.tmp 11))⟩, ⟨(some 87), none, .p (.iad 1 (.tmp 85) (.tmp 86))⟩, ⟨(some 88), none, .p (.ld none (.tmp 87))⟩, ⟨(some 89), none, .p (.bin .add (.tmp 88) (.const (.int .i64 1)))⟩, ⟨(some 90), none, .p (.iad 1 (.tmp 83) (.tmp 84))⟩, ⟨none, none, .e (.st 1 (.tmp 90) (.tmp 89))⟩]) .skip))
  (.seq (.dreg [⟨(some 91), none, .p (.mov (.tmp 7))⟩, ⟨(some 92), none, .p (.mov (.tmp 12))⟩, ⟨(some 93), none, .p (.iad 1 (.tmp 91) (.tmp 92))⟩, ⟨(some 94), none, .p (.ld none (.tmp 93))⟩, ⟨(some 95), none, .p (.bin .geq (.tmp 94) (.const (.int .i64 0)))⟩, ⟨(some 96), none, .p (.mov (.tmp 95))⟩, ⟨(some 97), (some (96, true)), .p (.mov (.tmp 7))⟩, ⟨(some 98), (some (96, true)), .p (.mov (.tmp 11))⟩, ⟨(some 99), (some (96, true)), .p (.iad 1 (.tmp 97) (.tmp 98))⟩, ⟨(some 100), (some (96, true)), .p (.ld none (.tmp 99))⟩, ⟨(some 101), (some (96, true)), .p (.bin .lss (.tmp 100) (.const (.int .i64 0)))⟩, ⟨(some 102), (some (96, true)), .p (.mov (.tmp 101))⟩, ⟨(some 103), (some (102, false)), .p (.mov (.tmp 7))⟩, ⟨(some 104), (some (102, false)), .p (.mov (.tmp 12))⟩, ⟨(some 105), (some (102, false)), .p (.iad 1 (.tmp 103) (.tmp 104))⟩, ⟨(some 106), (some (102, false)), .p (.ld none (.tmp 105))⟩, ⟨(some 107), (some (102, false)), .p (.bin .add (.tmp 106) (.const (.int .i64 1)))⟩, ⟨(some 108), (some (102, false)), .p (.mov (.tmp 7))⟩, ⟨(some 109), (some (102, false)), .p (.mov (.tmp 11))⟩, ⟨(some 110), (some (102, false)), .p (.iad 1 (.tmp 108) (.tmp 109))⟩, ⟨(some 111), (some (102, false)), .p (.ld none (.tmp 110))⟩, ⟨(some 112), (some (102, false)), .p (.bin .lss (.tmp 107) (.tmp 111))⟩, ⟨(some 113), (some (96, true)), .p (.pick (.tmp 102) (.const (.bool true)) (.tmp 112))⟩] [[⟨(some 114), none, .p (.pick (.tmp 96) (.tmp 113) (.const (.bool false)))⟩]])
  (.cond (.tmp 114) (.reg [⟨(some 115), none, .p (.mov (.tmp 7))⟩, ⟨(some 116), none, .p (.mov (.tmp 11))⟩, ⟨(some 117), none, .p (.mov (.tmp 7))⟩, ⟨(some 118), none, .p (.mov (.tmp 12))⟩, ⟨(some 119), none, .p (.iad 1 (.tmp 117) (.tmp 118))⟩, ⟨(some 120), none, .p (.ld none (.tmp 119))⟩, ⟨(some 121), none, .p (.bin .add (.tmp 120) (.const (.int .i64 1)))⟩, ⟨(some 122), none, .p (.iad 1 (.tmp 115) (.tmp 116))⟩, ⟨none, none, .e (.st 1 (.tmp 122) (.tmp 121))⟩]) .skip))))))
  (.reg [⟨(some 40), none, .p (.mov (.tmp 10))⟩, ⟨(some 41), none, .p (.bin .add (.tmp 40) (.const (.int .i64 1)))⟩, ⟨(some 10), none, .p (.mov (.tmp 41))⟩])))
def lb25_1 : LC :=
  (.seq (.seq (.reg [⟨(some 29), none, .p (.mov (.tmp 9))⟩, ⟨(some 30), none, .p (.mov (.tmp 7))⟩, ⟨(some 31), none, .p (.len 1 (.tmp 30))⟩, ⟨(some 32), none, .p (.bin .lss (.tmp 29) (.tmp 31))⟩])
  (.cond (.tmp 32) .skip (.exit 2)))
  (.seq (.block 3
  (.seq (.reg [⟨(some 10), none, .p (.mov (.const (.int .i64 0)))⟩])
  (.block 4
  (.loop lb25_0))))
  (.reg [⟨(some 33), none, .p (.mov (.tmp 9))⟩, ⟨(some 34), none, .p (.bin .add (.tmp 33) (.const (.int .i64 1)))⟩, ⟨(some 9), none, .p (.mov (.tmp 34))⟩])))
def lb25_2 : LC :=
  (.seq (.seq (.reg [⟨(some 17), none, .p (.mov (.tmp 8))⟩, ⟨(some 18), none, .p (.mov (.tmp 7))⟩, ⟨(some 19), none, .p (.len 1 (.tmp 18))⟩, ⟨(some 20), none, .p (.bin .lss (.tmp 17) (.tmp 19))⟩])
  (.cond (.tmp 20) .skip (.exit 0)))
  (.seq (.block 1
  (.reg [⟨(some 23), none, .p (.mov (.tmp 7))⟩, ⟨(some 24), none, .p (.mov (.tmp 8))⟩, ⟨(some 25), none, .p (.iad 1 (.tmp 23) (.tmp 24))⟩, ⟨none, none, .e (.st 1 (.tmp 25) (.const (.int .i64 (-1))))⟩]))
  (.reg [⟨(some 21), none, .p (.mov (.tmp 8))⟩, ⟨(some 22), none, .p (.bin .add (.tmp 21) (.const (.int .i64 1)))⟩, ⟨(some 8), none, .p (.mov (.tmp 22))⟩])))
/-- fairlink fairlinkref14.Distances -/
def cf25 : LC :=
  (.seq (.reg [⟨(some 3), none, .e (.box (.tmp 0))⟩, ⟨(some 6), none, .p (.mov (.const (.slice none 0 0)))⟩])
  (.seq (.reg [⟨(some 13), none, .p (.fad 0 (.tmp 3))⟩, ⟨(some 14), none, .p (.ld none (.tmp 13))⟩, ⟨(some 15), none, .p (.len 1 (.tmp 14))⟩, ⟨(some 16), none, .e (.mks 1 1 [(.int .i64 0)] 8 (.tmp 15) (.tmp 15))⟩, ⟨(some 7), none, .p (.mov (.tmp 16))⟩])
  (.seq (.seq (.reg [⟨(some 8), none, .p (.mov (.const (.int .i64 0)))⟩])
  (.block 0
  (.loop lb25_2)))
  (.seq (.reg [⟨(some 26), none, .p (.mov (.tmp 7))⟩, ⟨(some 27), none, .p (.mov (.tmp 1))⟩, ⟨(some 28), none, .p (.iad 1 (.tmp 26) (.tmp 27))⟩, ⟨none, none, .e (.st 1 (.tmp 28) (.const (.int .i64 0)))⟩])
  (.seq (.seq (.reg [⟨(some 9), none, .p (.mov (.const (.int .i64 0)))⟩])
  (.block 2
  (.loop lb25_1)))
  (.seq (.reg [⟨(some 123), none, .p (.mov (.tmp 7))⟩, ⟨(some 6), none, .p (.mov (.tmp 123))⟩])
  .ret))))))
def rf25 : List RX := [.tmp 6]
set_option maxRecDepth 100000 in
theorem comp25 : cFn Tryd.prog Tryd.f25 = some (erase cf25, rf25) := by kernel_rfl
def lb30_0 : LC :=
  (.seq (.seq (.reg [⟨(some 39), none, .p (.mov (.tmp 6))⟩, ⟨(some 40), none, .p (.fad 1 (.tmp 1))⟩, ⟨(some 41), none, .p (.ld none (.tmp 40))⟩, ⟨(some 42), none, .p (.len 1 (.tmp 41))⟩, ⟨(some 43), none, .p (.bin .lss (.tmp 39) (.tmp 42))⟩])
  (.cond (.tmp 43) .skip (.exit 2)))
  (.seq (.block 3
  (.seq (.reg [⟨(some 46), none, .p (.fad 1 (.tmp 1))⟩, ⟨(some 47), none, .p (.ld none (.tmp 46))⟩, ⟨(some 48), none, .p (.mov (.tmp 6))⟩, ⟨(some 49), none, .p (.iad 6 (.tmp 47) (.tmp 48))⟩, ⟨(some 50), none, .p (.ld (some 6) (.tmp 49))⟩, ⟨(some 7), none, .e (.alc [(.int .i64 0), (.int .i64 0), (.int .i64 0), (.int .i64 0), (.int .i64 0), (.int .i64 0)])⟩, ⟨none, none, .e (.st 6 (.tmp 7) (.tmp 50))⟩])
  (.dreg [⟨(some 51), none, .p (.mov (.tmp 3))⟩, ⟨(some 52), none, .p (.bin .add (.tmp 51) (.const (.string ⟨#[99, 97, 98, 108, 101, 32]⟩)))⟩, ⟨(some 53), none, .p (.fad 0 (.tmp 1))⟩, ⟨(some 54), none, .p (.ld none (.tmp 53))⟩, ⟨(some 55), none, .p (.fad 0 (.tmp 7))⟩, ⟨(some 56), none, .p (.ld none (.tmp 55))⟩, ⟨(some 57), none, .p (.iad 3 (.tmp 54) (.tmp 56))⟩, ⟨(some 58), none, .p (.fad 0 (.tmp 57))⟩, ⟨(some 59), none, .p (.ld none (.tmp 58))⟩, ⟨(some 60), none, .p (.bin .add (.tmp 52) (.tmp 59))⟩, ⟨(some 61), none, .p (.bin .add (.tmp 60) (.const (.string ⟨#[32]⟩)))⟩, ⟨(some 62), none, .p (.fad 1 (.tmp 7))⟩, ⟨(some 63), none, .p (.ld none (.tmp 62))⟩, ⟨(some 64), none, .e (.call 51 [(.tmp 63)])⟩, ⟨(some 65), none, .p (.bin .add (.tmp 61) (.tmp 64))⟩, ⟨(some 66), none, .p (.bin .add (.tmp 65) (.const (.string ⟨#[32]⟩)))⟩, ⟨(some 67), none, .p (.fad 0 (.tmp 1))⟩, ⟨(some 68), none, .p (.ld none (.tmp 67))⟩, ⟨(some 69), none, .p (.fad 2 (.tmp 7))⟩, ⟨(some 70), none, .p (.ld none (.tmp 69))⟩, ⟨(some 71), none, .p (.iad 3 (.tmp 68) (.tmp 70))⟩, ⟨(some 72), none, .p (.fad 0 (.tmp 71))⟩, ⟨(some 73), none, .p (.ld none (.tmp 72))⟩, ⟨(some 74), none, .p (.bin .add (.tmp 66) (.tmp 73))⟩, ⟨(some 75), none, .p (.bin .add (.tmp 74) (.const (.string ⟨#[32]⟩)))⟩, ⟨(some 76), none, .p (.fad 3 (.tmp 7))⟩, ⟨(some 77), none, .p (.ld none (.tmp 76))⟩, ⟨(some 78), none, .e (.call 51 [(.tmp 77)])⟩, ⟨(some 79), none, .p (.bin .add (.tmp 75) (.tmp 78))⟩, ⟨(some 80), none, .p (.bin .add (.tmp 79) (.const (.string ⟨#[32]⟩)))⟩, ⟨(some 81), none, .p (.fad 4 (.tmp 7))⟩, ⟨(some 82), none, .p (.ld none (.tmp 81))⟩, ⟨(some 83), none, .e (.call 51 [(.tmp 82)])⟩, ⟨(some 84), none, .p (.bin .add (.tmp 80) (.tmp 83))⟩, ⟨(some 85), none, .p (.bin .add (.tmp 84) (.const (.string ⟨#[32]⟩)))⟩, ⟨(some 86), none, .p (.fad 5 (.tmp 7))⟩, ⟨(some 87), none, .p (.ld none (.tmp 86))⟩, ⟨(some 88), none, .e (.call 51 [(.tmp 87)])⟩, ⟨(some 89), none, .p (.bin .add (.tmp 85) (.tmp 88))⟩, ⟨(some 90), none, .p (.bin .add (.tmp 89) (.const (.string ⟨#[10]⟩)))⟩] [[⟨(some 3), none, .p (.mov (.tmp 90))⟩]])))
  (.reg [⟨(some 44), none, .p (.mov (.tmp 6))⟩, ⟨(some 45), none, .p (.bin .add (.tmp 44) (.const (.int .i64 1)))⟩, ⟨(some 6), none, .p (.mov (.tmp 45))⟩])))
def lb30_1 : LC :=
  (.seq (.seq (.reg [⟨(some 8), none, .p (.mov (.tmp 4))⟩, ⟨(some 9), none, .p (.fad 0 (.tmp 1))⟩, ⟨(some 10), none, .p (.ld none (.tmp 9))⟩, ⟨(some 11), none, .p (.len 1 (.tmp 10))⟩, ⟨(some 12), none, .p (.bin .lss (.tmp 8) (.tmp 11))⟩])
  (.cond (.tmp 12) .skip (.exit 0)))
  (.seq (.block 1
  (.seq (.reg [⟨(some 15), none, .p (.fad 0 (.tmp 1))⟩, ⟨(some 16), none, .p (.ld none (.tmp 15))⟩, ⟨(some 17), none, .p (.mov (.tmp 4))⟩, ⟨(some 18), none, .p (.iad 3 (.tmp 16) (.tmp 17))⟩, ⟨(some 19), none, .p (.ld (some 3) (.tmp 18))⟩, ⟨(some 5), none, .e (.alc [(.string ⟨#[]⟩), (.bool false), (.int .i64 0)])⟩, ⟨none, none, .e (.st 3 (.tmp 5) (.tmp 19))⟩])
  (.seq (.reg [⟨(some 20), none, .p (.fad 1 (.tmp 5))⟩, ⟨(some 21), none, .p (.ld none (.tmp 20))⟩])
  (.cond (.tmp 21) (.dreg [⟨(some 22), none, .p (.mov (.tmp 3))⟩, ⟨(some 23), none, .p (.bin .add (.tmp 22) (.const (.string ⟨#[115, 119, 105, 116, 99, 104, 32]⟩)))⟩, ⟨(some 24), none, .p (.fad 0 (.tmp 5))⟩, ⟨(some 25), none, .p (.ld none (.tmp 24))⟩, ⟨(some 26), none, .p (.bin .add (.tmp 23) (.tmp 25))⟩, ⟨(some 27), none, .p (.bin .add (.tmp 26) (.const (.string ⟨#[32]⟩)))⟩, ⟨(some 28), none, .p (.fad 2 (.tmp 5))⟩, ⟨(some 29), none, .p (.ld none (.tmp 28))⟩, ⟨(some 30), none, .e (.call 51 [(.tmp 29)])⟩, ⟨(some 31), none, .p (.bin .add (.tmp 27) (.tmp 30))⟩, ⟨(some 32), none, .p (.bin .add (.tmp 31) (.const (.string ⟨#[10]⟩)))⟩] [[⟨(some 3), none, .p (.mov (.tmp 32))⟩]]) (.reg [⟨(some 33), none, .p (.mov (.tmp 3))⟩, ⟨(some 34), none, .p (.bin .add (.tmp 33) (.const (.string ⟨#[101, 110, 100, 32]⟩)))⟩, ⟨(some 35), none, .p (.fad 0 (.tmp 5))⟩, ⟨(some 36), none, .p (.ld none (.tmp 35))⟩, ⟨(some 37), none, .p (.bin .add (.tmp 34) (.tmp 36))⟩, ⟨(some 38), none, .p (.bin .add (.tmp 37) (.const (.string ⟨#[10]⟩)))⟩, ⟨(some 3), none, .p (.mov (.tmp 38))⟩])))))
  (.reg [⟨(some 13), none, .p (.mov (.tmp 4))⟩, ⟨(some 14), none, .p (.bin .add (.tmp 13) (.const (.int .i64 1)))⟩, ⟨(some 4), none, .p (.mov (.tmp 14))⟩])))
/-- fairlink fairlinkref14.Text -/
def cf30 : LC :=
  (.seq (.reg [⟨(some 1), none, .e (.box (.tmp 0))⟩, ⟨(some 2), none, .p (.mov (.const (.string ⟨#[]⟩)))⟩])
  (.seq (.reg [⟨(some 3), none, .p (.mov (.const (.string ⟨#[]⟩)))⟩])
  (.seq (.seq (.reg [⟨(some 4), none, .p (.mov (.const (.int .i64 0)))⟩])
  (.block 0
  (.loop lb30_1)))
  (.seq (.seq (.reg [⟨(some 6), none, .p (.mov (.const (.int .i64 0)))⟩])
  (.block 2
  (.loop lb30_0)))
  (.seq (.reg [⟨(some 91), none, .p (.mov (.tmp 3))⟩, ⟨(some 2), none, .p (.mov (.tmp 91))⟩])
  .ret)))))
def rf30 : List RX := [.tmp 2]
set_option maxRecDepth 100000 in
theorem comp30 : cFn Tryd.prog Tryd.f30 = some (erase cf30, rf30) := by kernel_rfl
def lb39_0 : LC :=
  (.seq (.seq (.reg [⟨(some 14), none, .p (.mov (.tmp 3))⟩, ⟨(some 15), none, .p (.mov (.tmp 0))⟩, ⟨(some 16), none, .p (.len 0 (.tmp 15))⟩, ⟨(some 17), none, .p (.bin .lss (.tmp 14) (.tmp 16))⟩])
  (.cond (.tmp 17) .skip (.exit 0)))
  (.seq (.block 1
  (.seq (.reg [⟨(some 20), none, .p (.mov (.tmp 0))⟩, ⟨(some 21), none, .p (.mov (.tmp 3))⟩, ⟨(some 22), none, .p (.idxs (.tmp 20) (.tmp 21))⟩, ⟨(some 23), none, .p (.bin .geq (.tmp 22) (.const (.int .u8 97)))⟩, ⟨(some 24), none, .p (.mov (.tmp 23))⟩, ⟨(some 25), (some (24, true)), .p (.mov (.tmp 0))⟩, ⟨(some 26), (some (24, true)), .p (.mov (.tmp 3))⟩, ⟨(some 27), (some (24, true)), .p (.idxs (.tmp 25) (.tmp 26))⟩, ⟨(some 28), (some (24, true)), .p (.bin .leq (.tmp 27) (.const (.int .u8 122)))⟩, ⟨(some 29), none, .p (.pick (.tmp 24) (.tmp 28) (.const (.bool false)))⟩, ⟨(some 4), none, .p (.mov (.tmp 29))⟩])
  (.seq (.reg [⟨(some 30), none, .p (.mov (.tmp 0))⟩, ⟨(some 31), none, .p (.mov (.tmp 3))⟩, ⟨(some 32), none, .p (.idxs (.tmp 30) (.tmp 31))⟩, ⟨(some 33), none, .p (.bin .geq (.tmp 32) (.const (.int .u8 48)))⟩, ⟨(some 34), none, .p (.mov (.tmp 33))⟩, ⟨(some 35), (some (34, true)), .p (.mov (.tmp 0))⟩, ⟨(some 36), (some (34, true)), .p (.mov (.tmp 3))⟩, ⟨(some 37), (some (34, true)), .p (.idxs (.tmp 35) (.tmp 36))⟩, ⟨(some 38), (some (34, true)), .p (.bin .leq (.tmp 37) (.const (.int .u8 57)))⟩, ⟨(some 39), none, .p (.pick (.tmp 34) (.tmp 38) (.const (.bool false)))⟩, ⟨(some 5), none, .p (.mov (.tmp 39))⟩])
  (.seq (.reg [⟨(some 40), none, .p (.mov (.tmp 4))⟩, ⟨(some 41), none, .p (.un .not (.tmp 40))⟩, ⟨(some 42), none, .p (.mov (.tmp 41))⟩, ⟨(some 43), (some (42, true)), .p (.mov (.tmp 5))⟩, ⟨(some 44), (some (42, true)), .p (.un .not (.tmp 43))⟩, ⟨(some 45), (some (42, true)), .p (.mov (.tmp 44))⟩, ⟨(some 46), (some (45, false)), .p (.mov (.tmp 3))⟩, ⟨(some 47), (some (45, false)), .p (.bin .eql (.tmp 46) (.const (.int .i64 0)))⟩, ⟨(some 48), (some (42, true)), .p (.pick (.tmp 45) (.const (.bool true)) (.tmp 47))⟩, ⟨(some 49), none, .p (.pick (.tmp 42) (.tmp 48) (.const (.bool false)))⟩])
  (.cond (.tmp 49) (.seq (.reg [⟨(some 2), none, .p (.mov (.const (.bool false)))⟩])
  .ret) .skip)))))
  (.reg [⟨(some 18), none, .p (.mov (.tmp 3))⟩, ⟨(some 19), none, .p (.bin .add (.tmp 18) (.const (.int .i64 1)))⟩, ⟨(some 3), none, .p (.mov (.tmp 19))⟩])))
/-- fairlink fairlinkref14.Name -/
def cf39 : LC :=
  (.seq (.reg [⟨(some 2), none, .p (.mov (.const (.bool false)))⟩])
  (.seq (.seq (.reg [⟨(some 6), none, .p (.mov (.tmp 0))⟩, ⟨(some 7), none, .p (.len 0 (.tmp 6))⟩, ⟨(some 8), none, .p (.bin .lss (.tmp 7) (.const (.int .i64 1)))⟩, ⟨(some 9), none, .p (.mov (.tmp 8))⟩, ⟨(some 10), (some (9, false)), .p (.mov (.tmp 0))⟩, ⟨(some 11), (some (9, false)), .p (.len 0 (.tmp 10))⟩, ⟨(some 12), (some (9, false)), .p (.bin .gtr (.tmp 11) (.const (.int .i64 20)))⟩, ⟨(some 13), none, .p (.pick (.tmp 9) (.const (.bool true)) (.tmp 12))⟩])
  (.cond (.tmp 13) (.seq (.reg [⟨(some 2), none, .p (.mov (.const (.bool false)))⟩])
  .ret) .skip))
  (.seq (.seq (.reg [⟨(some 3), none, .p (.mov (.const (.int .i64 0)))⟩])
  (.block 0
  (.loop lb39_0)))
  (.seq (.reg [⟨(some 2), none, .p (.mov (.const (.bool true)))⟩])
  .ret))))
def rf39 : List RX := [.tmp 2]
set_option maxRecDepth 100000 in
theorem comp39 : cFn Tryd.prog Tryd.f39 = some (erase cf39, rf39) := by kernel_rfl
/-- fairlink fairlinkref14.place -/
def cf40 : LC :=
  (.seq (.reg [⟨(some 3), none, .e (.box (.tmp 0))⟩, ⟨(some 6), none, .p (.mov (.const (.bool false)))⟩])
  (.seq (.reg [⟨(some 7), none, .p (.mov (.tmp 1))⟩, ⟨(some 8), none, .p (.bin .geq (.tmp 7) (.const (.int .i64 0)))⟩, ⟨(some 9), none, .p (.mov (.tmp 8))⟩, ⟨(some 10), (some (9, true)), .p (.mov (.tmp 1))⟩, ⟨(some 11), (some (9, true)), .p (.fad 0 (.tmp 3))⟩, ⟨(some 12), (some (9, true)), .p (.ld none (.tmp 11))⟩, ⟨(some 13), (some (9, true)), .p (.len 1 (.tmp 12))⟩, ⟨(some 14), (some (9, true)), .p (.bin .lss (.tmp 10) (.tmp 13))⟩, ⟨(some 15), none, .p (.pick (.tmp 9) (.tmp 14) (.const (.bool false)))⟩, ⟨(some 16), none, .p (.mov (.tmp 15))⟩, ⟨(some 17), (some (16, true)), .p (.mov (.tmp 2))⟩, ⟨(some 18), (some (16, true)), .p (.bin .geq (.tmp 17) (.const (.int .i64 0)))⟩, ⟨(some 19), none, .p (.pick (.tmp 16) (.tmp 18) (.const (.bool false)))⟩, ⟨(some 20), none, .p (.mov (.tmp 19))⟩, ⟨(some 21), (some (20, true)), .p (.mov (.tmp 2))⟩, ⟨(some 22), (some (20, true)), .p (.fad 0 (.tmp 3))⟩, ⟨(some 23), (some (20, true)), .p (.ld none (.tmp 22))⟩, ⟨(some 24), (some (20, true)), .p (.mov (.tmp 1))⟩, ⟨(some 25), (some (20, true)), .p (.iad 3 (.tmp 23) (.tmp 24))⟩, ⟨(some 26), (some (20, true)), .p (.fad 2 (.tmp 25))⟩, ⟨(some 27), (some (20, true)), .p (.ld none (.tmp 26))⟩, ⟨(some 28), (some (20, true)), .p (.bin .lss (.tmp 21) (.tmp 27))⟩, ⟨(some 29), none, .p (.pick (.tmp 20) (.tmp 28) (.const (.bool false)))⟩, ⟨(some 6), none, .p (.mov (.tmp 29))⟩])
  .ret))
def rf40 : List RX := [.tmp 6]
set_option maxRecDepth 100000 in
theorem comp40 : cFn Tryd.prog Tryd.f40 = some (erase cf40, rf40) := by kernel_rfl
def lb41_0 : LC :=
  (.seq (.seq (.reg [⟨(some 66), none, .p (.mov (.tmp 9))⟩, ⟨(some 67), none, .p (.mov (.tmp 8))⟩, ⟨(some 68), none, .p (.bin .lss (.tmp 66) (.tmp 67))⟩])
  (.cond (.tmp 68) .skip (.exit 8)))
  (.seq (.block 9
  (.seq (.dreg [⟨(some 71), none, .p (.mov (.tmp 5))⟩, ⟨(some 72), none, .p (.mov (.tmp 8))⟩, ⟨(some 73), none, .p (.iad 2 (.tmp 71) (.tmp 72))⟩, ⟨(some 74), none, .p (.ld (some 2) (.tmp 73))⟩, ⟨(some 75), none, .p (.mov (.tmp 5))⟩, ⟨(some 76), none, .p (.mov (.tmp 9))⟩, ⟨(some 77), none, .p (.iad 2 (.tmp 75) (.tmp 76))⟩, ⟨(some 78), none, .p (.ld (some 2) (.tmp 77))⟩] [[⟨(some 79), none, .p (.eqa false [(.i .i64), (.i .i64)] (.tmp 74) (.tmp 78))⟩]])
  (.cond (.tmp 79) (.seq (.reg [⟨(some 2), none, .p (.mov (.const (.bool true)))⟩])
  .ret) .skip)))
  (.reg [⟨(some 69), none, .p (.mov (.tmp 9))⟩, ⟨(some 70), none, .p (.bin .add (.tmp 69) (.const (.int .i64 1)))⟩, ⟨(some 9), none, .p (.mov (.tmp 70))⟩])))
def lb41_1 : LC :=
  (.seq (.seq (.reg [⟨(some 60), none, .p (.mov (.tmp 8))⟩, ⟨(some 61), none, .p (.mov (.tmp 5))⟩, ⟨(some 62), none, .p (.len 1 (.tmp 61))⟩, ⟨(some 63), none, .p (.bin .lss (.tmp 60) (.tmp 62))⟩])
  (.cond (.tmp 63) .skip (.exit 6)))
  (.seq (.block 7
  (.seq (.reg [⟨(some 9), none, .p (.mov (.const (.int .i64 0)))⟩])
  (.block 8
  (.loop lb41_0))))
  (.reg [⟨(some 64), none, .p (.mov (.tmp 8))⟩, ⟨(some 65), none, .p (.bin .add (.tmp 64) (.const (.int .i64 1)))⟩, ⟨(some 8), none, .p (.mov (.tmp 65))⟩])))
def lb41_2 : LC :=
  (.seq (.seq (.reg [⟨(some 35), none, .p (.mov (.tmp 6))⟩, ⟨(some 36), none, .p (.fad 1 (.tmp 1))⟩, ⟨(some 37), none, .p (.ld none (.tmp 36))⟩, ⟨(some 38), none, .p (.len 1 (.tmp 37))⟩, ⟨(some 39), none, .p (.bin .lss (.tmp 35) (.tmp 38))⟩])
  (.cond (.tmp 39) .skip (.exit 4)))
  (.seq (.block 5
  (.seq (.reg [⟨(some 42), none, .p (.fad 1 (.tmp 1))⟩, ⟨(some 43), none, .p (.ld none (.tmp 42))⟩, ⟨(some 44), none, .p (.mov (.tmp 6))⟩, ⟨(some 45), none, .p (.iad 6 (.tmp 43) (.tmp 44))⟩, ⟨(some 46), none, .p (.ld (some 6) (.tmp 45))⟩, ⟨(some 7), none, .e (.alc [(.int .i64 0), (.int .i64 0), (.int .i64 0), (.int .i64 0), (.int .i64 0), (.int .i64 0)])⟩, ⟨none, none, .e (.st 6 (.tmp 7) (.tmp 46))⟩])
  (.reg [⟨(some 47), none, .p (.mov (.tmp 5))⟩, ⟨(some 48), none, .p (.fad 0 (.tmp 7))⟩, ⟨(some 49), none, .p (.ld none (.tmp 48))⟩, ⟨(some 50), none, .p (.fad 1 (.tmp 7))⟩, ⟨(some 51), none, .p (.ld none (.tmp 50))⟩, ⟨(some 52), none, .p (.bld [(.int .i64 0), (.int .i64 0)] [(0, 1, (.tmp 49)), (1, 1, (.tmp 51))])⟩, ⟨(some 53), none, .p (.fad 2 (.tmp 7))⟩, ⟨(some 54), none, .p (.ld none (.tmp 53))⟩, ⟨(some 55), none, .p (.fad 3 (.tmp 7))⟩, ⟨(some 56), none, .p (.ld none (.tmp 55))⟩, ⟨(some 57), none, .p (.bld [(.int .i64 0), (.int .i64 0)] [(0, 1, (.tmp 54)), (1, 1, (.tmp 56))])⟩, ⟨(some 58), none, .e (.bsl 0 2 2 [(.int .i64 0), (.int .i64 0)] [(0, 2, (.tmp 52)), (2, 2, (.tmp 57))])⟩, ⟨(some 59), none, .e (.app 0 2 16 (.tmp 47) (.tmp 58))⟩, ⟨(some 5), none, .p (.mov (.tmp 59))⟩])))
  (.reg [⟨(some 40), none, .p (.mov (.tmp 6))⟩, ⟨(some 41), none, .p (.bin .add (.tmp 40) (.const (.int .i64 1)))⟩, ⟨(some 6), none, .p (.mov (.tmp 41))⟩])))
def lb41_3 : LC :=
  (.seq (.seq (.reg [⟨(some 17), none, .p (.mov (.tmp 4))⟩, ⟨(some 18), none, .p (.mov (.tmp 3))⟩, ⟨(some 19), none, .p (.bin .lss (.tmp 17) (.tmp 18))⟩])
  (.cond (.tmp 19) .skip (.exit 2)))
  (.seq (.block 3
  (.seq (.dreg [⟨(some 22), none, .p (.fad 0 (.tmp 1))⟩, ⟨(some 23), none, .p (.ld none (.tmp 22))⟩, ⟨(some 24), none, .p (.mov (.tmp 3))⟩, ⟨(some 25), none, .p (.iad 3 (.tmp 23) (.tmp 24))⟩, ⟨(some 26), none, .p (.fad 0 (.tmp 25))⟩, ⟨(some 27), none, .p (.ld none (.tmp 26))⟩, ⟨(some 28), none, .p (.fad 0 (.tmp 1))⟩, ⟨(some 29), none, .p (.ld none (.tmp 28))⟩, ⟨(some 30), none, .p (.mov (.tmp 4))⟩, ⟨(some 31), none, .p (.iad 3 (.tmp 29) (.tmp 30))⟩, ⟨(some 32), none, .p (.fad 0 (.tmp 31))⟩, ⟨(some 33), none, .p (.ld none (.tmp 32))⟩] [[⟨(some 34), none, .p (.bin .eql (.tmp 27) (.tmp 33))⟩]])
  (.cond (.tmp 34) (.seq (.reg [⟨(some 2), none, .p (.mov (.const (.bool true)))⟩])
  .ret) .skip)))
  (.reg [⟨(some 20), none, .p (.mov (.tmp 4))⟩, ⟨(some 21), none, .p (.bin .add (.tmp 20) (.const (.int .i64 1)))⟩, ⟨(some 4), none, .p (.mov (.tmp 21))⟩])))
def lb41_4 : LC :=
  (.seq (.seq (.reg [⟨(some 10), none, .p (.mov (.tmp 3))⟩, ⟨(some 11), none, .p (.fad 0 (.tmp 1))⟩, ⟨(some 12), none, .p (.ld none (.tmp 11))⟩, ⟨(some 13), none, .p (.len 1 (.tmp 12))⟩, ⟨(some 14), none, .p (.bin .lss (.tmp 10) (.tmp 13))⟩])
  (.cond (.tmp 14) .skip (.exit 0)))
  (.seq (.block 1
  (.seq (.reg [⟨(some 4), none, .p (.mov (.const (.int .i64 0)))⟩])
  (.block 2
  (.loop lb41_3))))
  (.reg [⟨(some 15), none, .p (.mov (.tmp 3))⟩, ⟨(some 16), none, .p (.bin .add (.tmp 15) (.const (.int .i64 1)))⟩, ⟨(some 3), none, .p (.mov (.tmp 16))⟩])))
/-- fairlink fairlinkref14.twice -/
def cf41 : LC :=
  (.seq (.reg [⟨(some 1), none, .e (.box (.tmp 0))⟩, ⟨(some 2), none, .p (.mov (.const (.bool false)))⟩])
  (.seq (.seq (.reg [⟨(some 3), none, .p (.mov (.const (.int .i64 0)))⟩])
  (.block 0
  (.loop lb41_4)))
  (.seq (.reg [⟨(some 5), none, .p (.mov (.const (.slice none 0 0)))⟩])
  (.seq (.seq (.reg [⟨(some 6), none, .p (.mov (.const (.int .i64 0)))⟩])
  (.block 4
  (.loop lb41_2)))
  (.seq (.seq (.reg [⟨(some 8), none, .p (.mov (.const (.int .i64 0)))⟩])
  (.block 6
  (.loop lb41_1)))
  (.seq (.reg [⟨(some 2), none, .p (.mov (.const (.bool false)))⟩])
  .ret))))))
def rf41 : List RX := [.tmp 2]
set_option maxRecDepth 100000 in
theorem comp41 : cFn Tryd.prog Tryd.f41 = some (erase cf41, rf41) := by kernel_rfl
end Go.Proofs.YtchpncmmlhfemaaDoor
namespace Go.Proofs.YtchpncmmlhfemaaDoor
def lb13_0 : LC :=
  (.seq (.reg [⟨(some 75), none, .p (.bin .lss (.tmp 74) (.tmp 73))⟩])
  (.seq (.cond (.tmp 75) .skip (.exit 6))
  (.seq (.block 7
  (.seq (.reg [⟨(some 76), none, .p (.iad 6 (.tmp 72) (.tmp 74))⟩, ⟨(some 77), none, .p (.ld (some 6) (.tmp 76))⟩, ⟨(some 10), none, .e (.alc [(.int .i64 0), (.int .i64 0), (.int .i64 0), (.int .i64 0), (.int .i64 0), (.int .i64 0)])⟩, ⟨none, none, .e (.st 6 (.tmp 10) (.tmp 77))⟩])
  (.seq (.reg [⟨(some 78), none, .p (.fad 4 (.tmp 10))⟩, ⟨(some 79), none, .p (.ld none (.tmp 78))⟩, ⟨(some 80), none, .p (.bin .lss (.tmp 79) (.const (.int .i64 1)))⟩, ⟨(some 81), none, .p (.mov (.tmp 80))⟩, ⟨(some 82), (some (81, false)), .p (.fad 4 (.tmp 10))⟩, ⟨(some 83), (some (81, false)), .p (.ld none (.tmp 82))⟩, ⟨(some 84), (some (81, false)), .p (.bin .gtr (.tmp 83) (.const (.int .i64 100)))⟩, ⟨(some 85), none, .p (.pick (.tmp 81) (.const (.bool true)) (.tmp 84))⟩, ⟨(some 86), none, .p (.mov (.tmp 85))⟩, ⟨(some 87), (some (86, false)), .p (.fad 5 (.tmp 10))⟩, ⟨(some 88), (some (86, false)), .p (.ld none (.tmp 87))⟩, ⟨(some 89), (some (86, false)), .p (.bin .lss (.tmp 88) (.const (.int .i64 1)))⟩, ⟨(some 90), none, .p (.pick (.tmp 86) (.const (.bool true)) (.tmp 89))⟩, ⟨(some 91), none, .p (.mov (.tmp 90))⟩, ⟨(some 92), (some (91, false)), .p (.fad 5 (.tmp 10))⟩, ⟨(some 93), (some (91, false)), .p (.ld none (.tmp 92))⟩, ⟨(some 94), (some (91, false)), .p (.bin .gtr (.tmp 93) (.const (.int .i64 1000)))⟩, ⟨(some 95), none, .p (.pick (.tmp 91) (.const (.bool true)) (.tmp 94))⟩])
  (.cond (.tmp 95) (.seq (.reg [⟨(some 2), none, .p (.mov (.const (.int .i64 3)))⟩])
  .ret) .skip))))
  (.reg [⟨(some 96), none, .p (.bin .add (.tmp 74) (.const (.int .i64 1)))⟩, ⟨(some 74), none, .p (.mov (.tmp 96))⟩]))))
def lb13_1 : LC :=
  (.seq (.reg [⟨(some 62), none, .p (.bin .lss (.tmp 61) (.tmp 60))⟩])
  (.seq (.cond (.tmp 62) .skip (.exit 4))
  (.seq (.block 5
  (.seq (.reg [⟨(some 63), none, .p (.iad 6 (.tmp 59) (.tmp 61))⟩, ⟨(some 64), none, .p (.ld (some 6) (.tmp 63))⟩, ⟨(some 8), none, .e (.alc [(.int .i64 0), (.int .i64 0), (.int .i64 0), (.int .i64 0), (.int .i64 0), (.int .i64 0)])⟩, ⟨none, none, .e (.st 6 (.tmp 8) (.tmp 64))⟩])
  (.seq (.reg [⟨(some 65), none, .p (.fad 0 (.tmp 8))⟩, ⟨(some 66), none, .p (.ld none (.tmp 65))⟩, ⟨(some 67), none, .p (.fad 2 (.tmp 8))⟩, ⟨(some 68), none, .p (.ld none (.tmp 67))⟩, ⟨(some 69), none, .p (.bin .eql (.tmp 66) (.tmp 68))⟩])
  (.cond (.tmp 69) (.seq (.reg [⟨(some 2), none, .p (.mov (.const (.int .i64 12)))⟩])
  .ret) .skip))))
  (.reg [⟨(some 70), none, .p (.bin .add (.tmp 61) (.const (.int .i64 1)))⟩, ⟨(some 61), none, .p (.mov (.tmp 70))⟩]))))
def lb13_2 : LC :=
  (.seq (.reg [⟨(some 36), none, .p (.bin .lss (.tmp 35) (.tmp 34))⟩])
  (.seq (.cond (.tmp 36) .skip (.exit 2))
  (.seq (.block 3
  (.seq (.reg [⟨(some 37), none, .p (.iad 6 (.tmp 33) (.tmp 35))⟩, ⟨(some 38), none, .p (.ld (some 6) (.tmp 37))⟩, ⟨(some 6), none, .e (.alc [(.int .i64 0), (.int .i64 0), (.int .i64 0), (.int .i64 0), (.int .i64 0), (.int .i64 0)])⟩, ⟨none, none, .e (.st 6 (.tmp 6) (.tmp 38))⟩])
  (.seq (.reg [⟨(some 39), none, .p (.ld (some 2) (.tmp 1))⟩, ⟨(some 40), none, .p (.fad 0 (.tmp 6))⟩, ⟨(some 41), none, .p (.ld none (.tmp 40))⟩, ⟨(some 42), none, .p (.fad 1 (.tmp 6))⟩, ⟨(some 43), none, .p (.ld none (.tmp 42))⟩, ⟨(some 44), none, .e (.call 37 [(.tmp 39), (.tmp 41), (.tmp 43)])⟩, ⟨(some 45), none, .p (.un .not (.tmp 44))⟩, ⟨(some 46), none, .p (.mov (.tmp 45))⟩, ⟨(some 47), (some (46, false)), .p (.ld (some 2) (.tmp 1))⟩, ⟨(some 48), (some (46, false)), .p (.fad 2 (.tmp 6))⟩, ⟨(some 49), (some (46, false)), .p (.ld none (.tmp 48))⟩, ⟨(some 50), (some (46, false)), .p (.fad 3 (.tmp 6))⟩, ⟨(some 51), (some (46, false)), .p (.ld none (.tmp 50))⟩, ⟨(some 52), (some (46, false)), .e (.call 37 [(.tmp 47), (.tmp 49), (.tmp 51)])⟩, ⟨(some 53), (some (46, false)), .p (.un .not (.tmp 52))⟩, ⟨(some 54), none, .p (.pick (.tmp 46) (.const (.bool true)) (.tmp 53))⟩])
  (.cond (.tmp 54) (.seq (.reg [⟨(some 2), none, .p (.mov (.const (.int .i64 2)))⟩])
  .ret) .skip))))
  (.reg [⟨(some 55), none, .p (.bin .add (.tmp 35) (.const (.int .i64 1)))⟩, ⟨(some 35), none, .p (.mov (.tmp 55))⟩]))))
def lb13_3 : LC :=
  (.seq (.reg [⟨(some 25), none, .p (.bin .lss (.tmp 24) (.tmp 23))⟩])
  (.seq (.cond (.tmp 25) .skip (.exit 0))
  (.seq (.block 1
  (.seq (.reg [⟨(some 26), none, .p (.iad 3 (.tmp 22) (.tmp 24))⟩, ⟨(some 27), none, .p (.ld (some 3) (.tmp 26))⟩, ⟨(some 4), none, .e (.alc [(.string ⟨#[]⟩), (.bool false), (.int .i64 0)])⟩, ⟨none, none, .e (.st 3 (.tmp 4) (.tmp 27))⟩])
  (.seq (.reg [⟨(some 28), none, .p (.ld (some 3) (.tmp 4))⟩, ⟨(some 29), none, .e (.call 36 [(.tmp 28)])⟩, ⟨(some 30), none, .p (.un .not (.tmp 29))⟩])
  (.cond (.tmp 30) (.seq (.reg [⟨(some 2), none, .p (.mov (.const (.int .i64 1)))⟩])
  .ret) .skip))))
  (.reg [⟨(some 31), none, .p (.bin .add (.tmp 24) (.const (.int .i64 1)))⟩, ⟨(some 24), none, .p (.mov (.tmp 31))⟩]))))
/-- fairlink graph.Valid -/
def cf13 : LC :=
  (.seq (.reg [⟨(some 1), none, .e (.box (.tmp 0))⟩, ⟨(some 2), none, .p (.mov (.const (.int .i64 0)))⟩])
  (.seq (.seq (.reg [⟨(some 11), none, .p (.fad 0 (.tmp 1))⟩, ⟨(some 12), none, .p (.ld none (.tmp 11))⟩, ⟨(some 13), none, .p (.len 1 (.tmp 12))⟩, ⟨(some 14), none, .p (.bin .gtr (.tmp 13) (.const (.int .i64 16)))⟩, ⟨(some 15), none, .p (.mov (.tmp 14))⟩, ⟨(some 16), (some (15, false)), .p (.fad 1 (.tmp 1))⟩, ⟨(some 17), (some (15, false)), .p (.ld none (.tmp 16))⟩, ⟨(some 18), (some (15, false)), .p (.len 1 (.tmp 17))⟩, ⟨(some 19), (some (15, false)), .p (.bin .gtr (.tmp 18) (.const (.int .i64 32)))⟩, ⟨(some 20), none, .p (.pick (.tmp 15) (.const (.bool true)) (.tmp 19))⟩])
  (.cond (.tmp 20) (.seq (.reg [⟨(some 2), none, .p (.mov (.const (.int .i64 5)))⟩])
  .ret) .skip))
  (.seq (.seq (.reg [⟨(some 21), none, .p (.fad 0 (.tmp 1))⟩, ⟨(some 22), none, .p (.ld none (.tmp 21))⟩, ⟨(some 23), none, .p (.len 1 (.tmp 22))⟩, ⟨(some 24), none, .p (.mov (.const (.int .i64 0)))⟩])
  (.block 0
  (.loop lb13_3)))
  (.seq (.seq (.reg [⟨(some 32), none, .p (.fad 1 (.tmp 1))⟩, ⟨(some 33), none, .p (.ld none (.tmp 32))⟩, ⟨(some 34), none, .p (.len 1 (.tmp 33))⟩, ⟨(some 35), none, .p (.mov (.const (.int .i64 0)))⟩])
  (.block 2
  (.loop lb13_2)))
  (.seq (.seq (.reg [⟨(some 56), none, .p (.ld (some 2) (.tmp 1))⟩, ⟨(some 57), none, .e (.call 38 [(.tmp 56)])⟩])
  (.cond (.tmp 57) (.seq (.reg [⟨(some 2), none, .p (.mov (.const (.int .i64 8)))⟩])
  .ret) .skip))
  (.seq (.seq (.reg [⟨(some 58), none, .p (.fad 1 (.tmp 1))⟩, ⟨(some 59), none, .p (.ld none (.tmp 58))⟩, ⟨(some 60), none, .p (.len 1 (.tmp 59))⟩, ⟨(some 61), none, .p (.mov (.const (.int .i64 0)))⟩])
  (.block 4
  (.loop lb13_1)))
  (.seq (.seq (.reg [⟨(some 71), none, .p (.fad 1 (.tmp 1))⟩, ⟨(some 72), none, .p (.ld none (.tmp 71))⟩, ⟨(some 73), none, .p (.len 1 (.tmp 72))⟩, ⟨(some 74), none, .p (.mov (.const (.int .i64 0)))⟩])
  (.block 6
  (.loop lb13_0)))
  (.seq (.reg [⟨(some 2), none, .p (.mov (.const (.int .i64 0)))⟩])
  .ret))))))))
def rf13 : List RX := [.tmp 2]
set_option maxRecDepth 100000 in
theorem comp13 : cFn Tryd.prog Tryd.f13 = some (erase cf13, rf13) := by kernel_rfl
/-- fairlink graph.Distances -/
def cf15 : LC :=
  (.seq (.reg [⟨(some 3), none, .e (.box (.tmp 0))⟩, ⟨(some 6), none, .p (.mov (.const (.slice none 0 0)))⟩])
  (.seq (.seq (.reg [⟨(some 7), none, .p (.ld (some 2) (.tmp 3))⟩, ⟨(some 8), none, .p (.mov (.tmp 2))⟩, ⟨(some 9), none, .e (.call 42 [(.tmp 7), (.tmp 8)])⟩, ⟨(some 10), none, .p (.un .not (.tmp 9))⟩, ⟨(some 11), none, .p (.mov (.tmp 10))⟩, ⟨(some 12), (some (11, false)), .p (.mov (.tmp 1))⟩, ⟨(some 13), (some (11, false)), .p (.bin .lss (.tmp 12) (.const (.int .i64 0)))⟩, ⟨(some 14), none, .p (.pick (.tmp 11) (.const (.bool true)) (.tmp 13))⟩, ⟨(some 15), none, .p (.mov (.tmp 14))⟩, ⟨(some 16), (some (15, false)), .p (.mov (.tmp 1))⟩, ⟨(some 17), (some (15, false)), .p (.fad 0 (.tmp 3))⟩, ⟨(some 18), (some (15, false)), .p (.ld none (.tmp 17))⟩, ⟨(some 19), (some (15, false)), .p (.len 1 (.tmp 18))⟩, ⟨(some 20), (some (15, false)), .p (.bin .geq (.tmp 16) (.tmp 19))⟩, ⟨(some 21), none, .p (.pick (.tmp 15) (.const (.bool true)) (.tmp 20))⟩])
  (.cond (.tmp 21) (.seq (.reg [⟨(some 6), none, .p (.mov (.const (.slice none 0 0)))⟩])
  .ret) .skip))
  (.seq (.reg [⟨(some 22), none, .p (.ld (some 2) (.tmp 3))⟩, ⟨(some 23), none, .p (.mov (.tmp 1))⟩, ⟨(some 24), none, .p (.mov (.tmp 2))⟩, ⟨(some 25), none, .e (.call 43 [(.tmp 22), (.tmp 23), (.tmp 24)])⟩, ⟨(some 6), none, .p (.mov (.tmp 25))⟩])
  .ret)))
def rf15 : List RX := [.tmp 6]
set_option maxRecDepth 100000 in
theorem comp15 : cFn Tryd.prog Tryd.f15 = some (erase cf15, rf15) := by kernel_rfl
def lb16_0 : LC :=
  (.seq (.reg [⟨(some 35), none, .p (.bin .lss (.tmp 34) (.tmp 33))⟩])
  (.seq (.cond (.tmp 35) .skip (.exit 2))
  (.seq (.block 3
  (.seq (.reg [⟨(some 36), none, .p (.mov (.tmp 34))⟩, ⟨(some 37), none, .p (.iad 1 (.tmp 32) (.tmp 34))⟩, ⟨(some 38), none, .p (.ld none (.tmp 37))⟩, ⟨(some 9), none, .p (.mov (.tmp 36))⟩, ⟨(some 10), none, .p (.mov (.tmp 38))⟩])
  (.seq (.reg [⟨(some 39), none, .p (.mov (.tmp 10))⟩, ⟨(some 40), none, .p (.bin .geq (.tmp 39) (.const (.int .i64 0)))⟩])
  (.cond (.tmp 40) (.seq (.reg [⟨(some 41), none, .p (.mov (.tmp 8))⟩, ⟨(some 42), none, .p (.mov (.tmp 9))⟩, ⟨(some 43), none, .e (.bsl 1 1 1 [(.int .i64 0)] [(0, 1, (.tmp 42))])⟩, ⟨(some 44), none, .e (.app 1 1 8 (.tmp 41) (.tmp 43))⟩, ⟨(some 8), none, .p (.mov (.tmp 44))⟩])
  (.reg [⟨(some 45), none, .p (.mov (.tmp 6))⟩, ⟨(some 46), none, .p (.mov (.tmp 9))⟩, ⟨(some 47), none, .p (.iad 1 (.tmp 45) (.tmp 46))⟩, ⟨none, none, .e (.st 1 (.tmp 47) (.const (.bool true)))⟩])) .skip))))
  (.reg [⟨(some 48), none, .p (.bin .add (.tmp 34) (.const (.int .i64 1)))⟩, ⟨(some 34), none, .p (.mov (.tmp 48))⟩]))))
def lb16_1 : LC :=
  (.seq (.reg [⟨(some 23), none, .p (.bin .lss (.tmp 22) (.tmp 21))⟩])
  (.seq (.cond (.tmp 23) .skip (.exit 0))
  (.seq (.block 1
  (.seq (.reg [⟨(some 24), none, .p (.mov (.tmp 22))⟩, ⟨(some 7), none, .p (.mov (.tmp 24))⟩])
  (.seq (.seq (.reg [⟨(some 25), none, .p (.mov (.tmp 6))⟩, ⟨(some 26), none, .p (.mov (.tmp 7))⟩, ⟨(some 27), none, .p (.iad 1 (.tmp 25) (.tmp 26))⟩, ⟨(some 28), none, .p (.ld none (.tmp 27))⟩])
  (.cond (.tmp 28) (.exit 1) .skip))
  (.seq (.reg [⟨(some 8), none, .p (.mov (.const (.slice none 0 0)))⟩])
  (.seqj (.seq (.reg [⟨(some 29), none, .p (.ld (some 2) (.tmp 2))⟩, ⟨(some 30), none, .p (.mov (.tmp 7))⟩, ⟨(some 31), none, .p (.mov (.tmp 1))⟩, ⟨(some 32), none, .e (.call 43 [(.tmp 29), (.tmp 30), (.tmp 31)])⟩, ⟨(some 33), none, .p (.len 1 (.tmp 32))⟩, ⟨(some 34), none, .p (.mov (.const (.int .i64 0)))⟩])
  (.block 2
  (.loop lb16_0)))
  (.reg [⟨(some 49), none, .p (.mov (.tmp 5))⟩, ⟨(some 50), none, .p (.mov (.tmp 8))⟩, ⟨(some 51), none, .e (.bsr 1 1 [(.slice none 0 0)] [(0, 1, (.tmp 50))])⟩, ⟨(some 52), none, .e (.app 0 1 24 (.tmp 49) (.tmp 51))⟩, ⟨(some 5), none, .p (.mov (.tmp 52))⟩]))))))
  (.reg [⟨(some 53), none, .p (.bin .add (.tmp 22) (.const (.int .i64 1)))⟩, ⟨(some 22), none, .p (.mov (.tmp 53))⟩]))))
/-- fairlink graph.Parts -/
def cf16 : LC :=
  (.seq (.reg [⟨(some 2), none, .e (.box (.tmp 0))⟩, ⟨(some 4), none, .p (.mov (.const (.slice none 0 0)))⟩])
  (.seq (.seq (.reg [⟨(some 11), none, .p (.ld (some 2) (.tmp 2))⟩, ⟨(some 12), none, .p (.mov (.tmp 1))⟩, ⟨(some 13), none, .e (.call 42 [(.tmp 11), (.tmp 12)])⟩, ⟨(some 14), none, .p (.un .not (.tmp 13))⟩])
  (.cond (.tmp 14) (.seq (.reg [⟨(some 4), none, .p (.mov (.const (.slice none 0 0)))⟩])
  .ret) .skip))
  (.seq (.reg [⟨(some 5), none, .p (.mov (.const (.slice none 0 0)))⟩])
  (.seq (.reg [⟨(some 15), none, .p (.fad 0 (.tmp 2))⟩, ⟨(some 16), none, .p (.ld none (.tmp 15))⟩, ⟨(some 17), none, .p (.len 1 (.tmp 16))⟩, ⟨(some 18), none, .e (.mks 2 1 [(.bool false)] 1 (.tmp 17) (.tmp 17))⟩, ⟨(some 6), none, .p (.mov (.tmp 18))⟩])
  (.seq (.seq (.reg [⟨(some 19), none, .p (.fad 0 (.tmp 2))⟩, ⟨(some 20), none, .p (.ld none (.tmp 19))⟩, ⟨(some 21), none, .p (.len 1 (.tmp 20))⟩, ⟨(some 22), none, .p (.mov (.const (.int .i64 0)))⟩])
  (.block 0
  (.loop lb16_1)))
  (.seq (.reg [⟨(some 54), none, .p (.mov (.tmp 5))⟩, ⟨(some 4), none, .p (.mov (.tmp 54))⟩])
  .ret))))))
def rf16 : List RX := [.tmp 4]
set_option maxRecDepth 100000 in
theorem comp16 : cFn Tryd.prog Tryd.f16 = some (erase cf16, rf16) := by kernel_rfl
def lb18_0 : LC :=
  (.seq (.reg [⟨(some 19), none, .p (.bin .lss (.tmp 18) (.tmp 17))⟩])
  (.seq (.cond (.tmp 19) .skip (.exit 0))
  (.seq (.block 1
  (.seq (.reg [⟨(some 20), none, .p (.mov (.tmp 18))⟩, ⟨(some 21), none, .p (.iad 6 (.tmp 16) (.tmp 18))⟩, ⟨(some 22), none, .p (.ld (some 6) (.tmp 21))⟩, ⟨(some 11), none, .e (.alc [(.int .i64 0), (.int .i64 0), (.int .i64 0), (.int .i64 0), (.int .i64 0), (.int .i64 0)])⟩, ⟨(some 10), none, .p (.mov (.tmp 20))⟩, ⟨none, none, .e (.st 6 (.tmp 11) (.tmp 22))⟩])
  (.block 2
  (.seq (.reg [⟨(some 24), none, .p (.fad 0 (.tmp 11))⟩, ⟨(some 25), none, .p (.ld none (.tmp 24))⟩, ⟨(some 26), none, .p (.mov (.tmp 1))⟩, ⟨(some 27), none, .p (.bin .eql (.tmp 25) (.tmp 26))⟩, ⟨(some 28), none, .p (.mov (.tmp 27))⟩, ⟨(some 29), (some (28, true)), .p (.fad 1 (.tmp 11))⟩, ⟨(some 30), (some (28, true)), .p (.ld none (.tmp 29))⟩, ⟨(some 31), (some (28, true)), .p (.mov (.tmp 2))⟩, ⟨(some 32), (some (28, true)), .p (.bin .eql (.tmp 30) (.tmp 31))⟩, ⟨(some 33), none, .p (.pick (.tmp 28) (.tmp 32) (.const (.bool false)))⟩, ⟨(some 23), none, .p (.mov (.tmp 33))⟩])
  (.cond (.tmp 23) (.seq (.dreg [⟨(some 34), none, .p (.fad 2 (.tmp 11))⟩, ⟨(some 35), none, .p (.ld none (.tmp 34))⟩, ⟨(some 36), none, .p (.fad 3 (.tmp 11))⟩, ⟨(some 37), none, .p (.ld none (.tmp 36))⟩, ⟨(some 38), none, .p (.mov (.tmp 10))⟩, ⟨(some 6), none, .p (.mov (.tmp 35))⟩, ⟨(some 7), none, .p (.mov (.tmp 37))⟩, ⟨(some 8), none, .p (.mov (.tmp 38))⟩] [[⟨(some 9), none, .p (.mov (.const (.bool true)))⟩]])
  .ret) (.seq (.reg [⟨(some 40), none, .p (.fad 2 (.tmp 11))⟩, ⟨(some 41), none, .p (.ld none (.tmp 40))⟩, ⟨(some 42), none, .p (.mov (.tmp 1))⟩, ⟨(some 43), none, .p (.bin .eql (.tmp 41) (.tmp 42))⟩, ⟨(some 44), none, .p (.mov (.tmp 43))⟩, ⟨(some 45), (some (44, true)), .p (.fad 3 (.tmp 11))⟩, ⟨(some 46), (some (44, true)), .p (.ld none (.tmp 45))⟩, ⟨(some 47), (some (44, true)), .p (.mov (.tmp 2))⟩, ⟨(some 48), (some (44, true)), .p (.bin .eql (.tmp 46) (.tmp 47))⟩, ⟨(some 49), none, .p (.pick (.tmp 44) (.tmp 48) (.const (.bool false)))⟩, ⟨(some 39), none, .p (.mov (.tmp 49))⟩])
  (.cond (.tmp 39) (.seq (.dreg [⟨(some 50), none, .p (.fad 0 (.tmp 11))⟩, ⟨(some 51), none, .p (.ld none (.tmp 50))⟩, ⟨(some 52), none, .p (.fad 1 (.tmp 11))⟩, ⟨(some 53), none, .p (.ld none (.tmp 52))⟩, ⟨(some 54), none, .p (.mov (.tmp 10))⟩, ⟨(some 6), none, .p (.mov (.tmp 51))⟩, ⟨(some 7), none, .p (.mov (.tmp 53))⟩, ⟨(some 8), none, .p (.mov (.tmp 54))⟩] [[⟨(some 9), none, .p (.mov (.const (.bool true)))⟩]])
  .ret) .skip)))))))
  (.reg [⟨(some 55), none, .p (.bin .add (.tmp 18) (.const (.int .i64 1)))⟩, ⟨(some 18), none, .p (.mov (.tmp 55))⟩]))))
/-- fairlink graph.Neighbor -/
def cf18 : LC :=
  (.seq (.reg [⟨(some 3), none, .e (.box (.tmp 0))⟩, ⟨(some 6), none, .p (.mov (.const (.int .i64 0)))⟩, ⟨(some 7), none, .p (.mov (.const (.int .i64 0)))⟩, ⟨(some 8), none, .p (.mov (.const (.int .i64 0)))⟩, ⟨(some 9), none, .p (.mov (.const (.bool false)))⟩])
  (.seq (.seq (.reg [⟨(some 12), none, .p (.ld (some 2) (.tmp 3))⟩, ⟨(some 13), none, .e (.call 13 [(.tmp 12)])⟩, ⟨(some 14), none, .p (.bin .eql (.tmp 13) (.const (.int .i64 0)))⟩])
  (.cond (.tmp 14) (.seq (.reg [⟨(some 15), none, .p (.fad 1 (.tmp 3))⟩, ⟨(some 16), none, .p (.ld none (.tmp 15))⟩, ⟨(some 17), none, .p (.len 1 (.tmp 16))⟩, ⟨(some 18), none, .p (.mov (.const (.int .i64 0)))⟩])
  (.block 0
  (.loop lb18_0))) .skip))
  (.seq (.reg [⟨(some 6), none, .p (.mov (.const (.int .i64 (-1))))⟩, ⟨(some 7), none, .p (.mov (.const (.int .i64 (-1))))⟩, ⟨(some 8), none, .p (.mov (.const (.int .i64 (-1))))⟩, ⟨(some 9), none, .p (.mov (.const (.bool false)))⟩])
  .ret)))
def rf18 : List RX := [.tmp 6, .tmp 7, .tmp 8, .tmp 9]
set_option maxRecDepth 100000 in
theorem comp18 : cFn Tryd.prog Tryd.f18 = some (erase cf18, rf18) := by kernel_rfl
def lb19_0 : LC :=
  (.seq (.reg [⟨(some 15), none, .p (.bin .lss (.tmp 14) (.tmp 13))⟩])
  (.seq (.cond (.tmp 15) .skip (.exit 0))
  (.seq (.block 1
  (.seq (.reg [⟨(some 16), none, .p (.mov (.tmp 14))⟩, ⟨(some 17), none, .p (.iad 6 (.tmp 12) (.tmp 14))⟩, ⟨(some 18), none, .p (.ld (some 6) (.tmp 17))⟩, ⟨(some 7), none, .e (.alc [(.int .i64 0), (.int .i64 0), (.int .i64 0), (.int .i64 0), (.int .i64 0), (.int .i64 0)])⟩, ⟨(some 6), none, .p (.mov (.tmp 16))⟩, ⟨none, none, .e (.st 6 (.tmp 7) (.tmp 18))⟩])
  (.seq (.reg [⟨(some 19), none, .p (.fad 0 (.tmp 7))⟩, ⟨(some 20), none, .p (.ld none (.tmp 19))⟩, ⟨(some 21), none, .p (.mov (.tmp 1))⟩, ⟨(some 22), none, .p (.bin .eql (.tmp 20) (.tmp 21))⟩, ⟨(some 23), none, .p (.mov (.tmp 22))⟩, ⟨(some 24), (some (23, false)), .p (.fad 2 (.tmp 7))⟩, ⟨(some 25), (some (23, false)), .p (.ld none (.tmp 24))⟩, ⟨(some 26), (some (23, false)), .p (.mov (.tmp 1))⟩, ⟨(some 27), (some (23, false)), .p (.bin .eql (.tmp 25) (.tmp 26))⟩, ⟨(some 28), none, .p (.pick (.tmp 23) (.const (.bool true)) (.tmp 27))⟩])
  (.cond (.tmp 28) (.reg [⟨(some 29), none, .p (.mov (.tmp 5))⟩, ⟨(some 30), none, .p (.mov (.tmp 6))⟩, ⟨(some 31), none, .e (.bsl 1 1 1 [(.int .i64 0)] [(0, 1, (.tmp 30))])⟩, ⟨(some 32), none, .e (.app 1 1 8 (.tmp 29) (.tmp 31))⟩, ⟨(some 5), none, .p (.mov (.tmp 32))⟩]) .skip))))
  (.reg [⟨(some 33), none, .p (.bin .add (.tmp 14) (.const (.int .i64 1)))⟩, ⟨(some 14), none, .p (.mov (.tmp 33))⟩]))))
/-- fairlink graph.Cables -/
def cf19 : LC :=
  (.seq (.reg [⟨(some 2), none, .e (.box (.tmp 0))⟩, ⟨(some 4), none, .p (.mov (.const (.slice none 0 0)))⟩])
  (.seq (.seq (.reg [⟨(some 8), none, .p (.ld (some 2) (.tmp 2))⟩, ⟨(some 9), none, .e (.call 13 [(.tmp 8)])⟩, ⟨(some 10), none, .p (.bin .neq (.tmp 9) (.const (.int .i64 0)))⟩])
  (.cond (.tmp 10) (.seq (.reg [⟨(some 4), none, .p (.mov (.const (.slice none 0 0)))⟩])
  .ret) .skip))
  (.seq (.reg [⟨(some 5), none, .p (.mov (.const (.slice none 0 0)))⟩])
  (.seq (.seq (.reg [⟨(some 11), none, .p (.fad 1 (.tmp 2))⟩, ⟨(some 12), none, .p (.ld none (.tmp 11))⟩, ⟨(some 13), none, .p (.len 1 (.tmp 12))⟩, ⟨(some 14), none, .p (.mov (.const (.int .i64 0)))⟩])
  (.block 0
  (.loop lb19_0)))
  (.seq (.reg [⟨(some 34), none, .p (.mov (.tmp 5))⟩, ⟨(some 4), none, .p (.mov (.tmp 34))⟩])
  .ret)))))
def rf19 : List RX := [.tmp 4]
set_option maxRecDepth 100000 in
theorem comp19 : cFn Tryd.prog Tryd.f19 = some (erase cf19, rf19) := by kernel_rfl
/-- fairlink graph.Connected -/
def cf22 : LC :=
  (.seq (.reg [⟨(some 2), none, .e (.box (.tmp 0))⟩, ⟨(some 4), none, .p (.mov (.const (.bool false)))⟩])
  (.seq (.reg [⟨(some 5), none, .p (.ld (some 2) (.tmp 2))⟩, ⟨(some 6), none, .p (.mov (.tmp 1))⟩, ⟨(some 7), none, .e (.call 16 [(.tmp 5), (.tmp 6)])⟩, ⟨(some 8), none, .p (.len 1 (.tmp 7))⟩, ⟨(some 9), none, .p (.bin .eql (.tmp 8) (.const (.int .i64 1)))⟩, ⟨(some 4), none, .p (.mov (.tmp 9))⟩])
  .ret))
def rf22 : List RX := [.tmp 4]
set_option maxRecDepth 100000 in
theorem comp22 : cFn Tryd.prog Tryd.f22 = some (erase cf22, rf22) := by kernel_rfl
def lb28_0 : LC :=
  (.seq (.reg [⟨(some 44), none, .p (.bin .lss (.tmp 43) (.tmp 42))⟩])
  (.seq (.cond (.tmp 44) .skip (.exit 2))
  (.seq (.block 3
  (.seq (.reg [⟨(some 45), none, .p (.iad 6 (.tmp 41) (.tmp 43))⟩, ⟨(some 46), none, .p (.ld (some 6) (.tmp 45))⟩, ⟨(some 10), none, .e (.alc [(.int .i64 0), (.int .i64 0), (.int .i64 0), (.int .i64 0), (.int .i64 0), (.int .i64 0)])⟩, ⟨none, none, .e (.st 6 (.tmp 10) (.tmp 46))⟩])
  (.dreg [⟨(some 47), none, .p (.mov (.tmp 6))⟩, ⟨(some 48), none, .p (.fad 0 (.tmp 1))⟩, ⟨(some 49), none, .p (.ld none (.tmp 48))⟩, ⟨(some 50), none, .p (.fad 0 (.tmp 10))⟩, ⟨(some 51), none, .p (.ld none (.tmp 50))⟩, ⟨(some 52), none, .p (.iad 3 (.tmp 49) (.tmp 51))⟩, ⟨(some 53), none, .p (.fad 0 (.tmp 52))⟩, ⟨(some 54), none, .p (.ld none (.tmp 53))⟩, ⟨(some 55), none, .p (.fad 1 (.tmp 10))⟩, ⟨(some 56), none, .p (.ld none (.tmp 55))⟩, ⟨(some 57), none, .e (.call 48 [(.tmp 56)])⟩, ⟨(some 58), none, .p (.fad 0 (.tmp 1))⟩, ⟨(some 59), none, .p (.ld none (.tmp 58))⟩, ⟨(some 60), none, .p (.fad 2 (.tmp 10))⟩, ⟨(some 61), none, .p (.ld none (.tmp 60))⟩, ⟨(some 62), none, .p (.iad 3 (.tmp 59) (.tmp 61))⟩, ⟨(some 63), none, .p (.fad 0 (.tmp 62))⟩, ⟨(some 64), none, .p (.ld none (.tmp 63))⟩, ⟨(some 65), none, .p (.fad 3 (.tmp 10))⟩, ⟨(some 66), none, .p (.ld none (.tmp 65))⟩, ⟨(some 67), none, .e (.call 48 [(.tmp 66)])⟩, ⟨(some 68), none, .p (.fad 4 (.tmp 10))⟩, ⟨(some 69), none, .p (.ld none (.tmp 68))⟩, ⟨(some 70), none, .e (.call 48 [(.tmp 69)])⟩, ⟨(some 71), none, .p (.fad 5 (.tmp 10))⟩, ⟨(some 72), none, .p (.ld none (.tmp 71))⟩, ⟨(some 73), none, .e (.call 48 [(.tmp 72)])⟩, ⟨(some 74), none, .e (.bsr 7 1 [(.string ⟨#[]⟩)] [(0, 1, (.const (.string ⟨#[99, 97, 98, 108, 101]⟩))), (1, 1, (.tmp 54)), (2, 1, (.tmp 57)), (3, 1, (.tmp 64)), (4, 1, (.tmp 67)), (5, 1, (.tmp 70)), (6, 1, (.tmp 73))])⟩] [[⟨(some 75), none, .e (.calv (.tmp 47) [(.tmp 74)])⟩]])))
  (.reg [⟨(some 76), none, .p (.bin .add (.tmp 43) (.const (.int .i64 1)))⟩, ⟨(some 43), none, .p (.mov (.tmp 76))⟩]))))
def lb28_1 : LC :=
  (.seq (.reg [⟨(some 21), none, .p (.bin .lss (.tmp 20) (.tmp 19))⟩])
  (.seq (.cond (.tmp 21) .skip (.exit 0))
  (.seq (.block 1
  (.seq (.reg [⟨(some 22), none, .p (.iad 3 (.tmp 18) (.tmp 20))⟩, ⟨(some 23), none, .p (.ld (some 3) (.tmp 22))⟩, ⟨(some 8), none, .e (.alc [(.string ⟨#[]⟩), (.bool false), (.int .i64 0)])⟩, ⟨none, none, .e (.st 3 (.tmp 8) (.tmp 23))⟩])
  (.seq (.reg [⟨(some 24), none, .p (.fad 1 (.tmp 8))⟩, ⟨(some 25), none, .p (.ld none (.tmp 24))⟩])
  (.cond (.tmp 25) (.dreg [⟨(some 26), none, .p (.mov (.tmp 6))⟩, ⟨(some 27), none, .p (.fad 0 (.tmp 8))⟩, ⟨(some 28), none, .p (.ld none (.tmp 27))⟩, ⟨(some 29), none, .p (.fad 2 (.tmp 8))⟩, ⟨(some 30), none, .p (.ld none (.tmp 29))⟩, ⟨(some 31), none, .e (.call 48 [(.tmp 30)])⟩, ⟨(some 32), none, .e (.bsr 3 1 [(.string ⟨#[]⟩)] [(0, 1, (.const (.string ⟨#[115, 119, 105, 116, 99, 104]⟩))), (1, 1, (.tmp 28)), (2, 1, (.tmp 31))])⟩] [[⟨(some 33), none, .e (.calv (.tmp 26) [(.tmp 32)])⟩]]) (.reg [⟨(some 34), none, .p (.mov (.tmp 6))⟩, ⟨(some 35), none, .p (.fad 0 (.tmp 8))⟩, ⟨(some 36), none, .p (.ld none (.tmp 35))⟩, ⟨(some 37), none, .e (.bsr 2 1 [(.string ⟨#[]⟩)] [(0, 1, (.const (.string ⟨#[101, 110, 100]⟩))), (1, 1, (.tmp 36))])⟩, ⟨(some 38), none, .e (.calv (.tmp 34) [(.tmp 37)])⟩])))))
  (.reg [⟨(some 39), none, .p (.bin .add (.tmp 20) (.const (.int .i64 1)))⟩, ⟨(some 20), none, .p (.mov (.tmp 39))⟩]))))
/-- fairlink graph.Format -/
def cf28 : LC :=
  (.seq (.reg [⟨(some 1), none, .e (.box (.tmp 0))⟩, ⟨(some 2), none, .p (.mov (.const (.string ⟨#[]⟩)))⟩, ⟨(some 3), none, .p (.mov (.const (.int .i64 0)))⟩])
  (.seq (.seq (.reg [⟨(some 11), none, .p (.ld (some 2) (.tmp 1))⟩, ⟨(some 12), none, .e (.call 13 [(.tmp 11)])⟩, ⟨(some 4), none, .p (.mov (.tmp 12))⟩])
  (.seq (.reg [⟨(some 13), none, .p (.mov (.tmp 4))⟩, ⟨(some 14), none, .p (.bin .neq (.tmp 13) (.const (.int .i64 0)))⟩])
  (.cond (.tmp 14) (.seq (.reg [⟨(some 15), none, .p (.mov (.tmp 4))⟩, ⟨(some 2), none, .p (.mov (.const (.string ⟨#[]⟩)))⟩, ⟨(some 3), none, .p (.mov (.tmp 15))⟩])
  .ret) .skip)))
  (.seq (.reg [⟨(some 5), none, .e (.alct 70 [(.pointer none), (.slice none 0 0)])⟩])
  (.seq (.reg [⟨(some 16), none, .p (.mkf 45 [(.tmp 5)])⟩, ⟨(some 6), none, .p (.mov (.tmp 16))⟩])
  (.seq (.seq (.reg [⟨(some 17), none, .p (.fad 0 (.tmp 1))⟩, ⟨(some 18), none, .p (.ld none (.tmp 17))⟩, ⟨(some 19), none, .p (.len 1 (.tmp 18))⟩, ⟨(some 20), none, .p (.mov (.const (.int .i64 0)))⟩])
  (.block 0
  (.loop lb28_1)))
  (.seq (.seq (.reg [⟨(some 40), none, .p (.fad 1 (.tmp 1))⟩, ⟨(some 41), none, .p (.ld none (.tmp 40))⟩, ⟨(some 42), none, .p (.len 1 (.tmp 41))⟩, ⟨(some 43), none, .p (.mov (.const (.int .i64 0)))⟩])
  (.block 2
  (.loop lb28_0)))
  (.seq (.reg [⟨(some 77), none, .e (.call 49 [(.tmp 5)])⟩, ⟨(some 2), none, .p (.mov (.tmp 77))⟩, ⟨(some 3), none, .p (.mov (.const (.int .i64 0)))⟩])
  .ret)))))))
def rf28 : List RX := [.tmp 2, .tmp 3]
set_option maxRecDepth 100000 in
theorem comp28 : cFn Tryd.prog Tryd.f28 = some (erase cf28, rf28) := by kernel_rfl
def lb29_0 : LC :=
  (.seq (.reg [⟨(some 60), none, .p (.bin .lss (.tmp 59) (.tmp 58))⟩])
  (.seq (.cond (.tmp 60) .skip (.exit 2))
  (.seq (.block 3
  (.seq (.reg [⟨(some 61), none, .p (.mov (.tmp 59))⟩, ⟨(some 62), none, .p (.iad 2 (.tmp 57) (.tmp 59))⟩, ⟨(some 63), none, .p (.ld (some 2) (.tmp 62))⟩, ⟨(some 14), none, .e (.alc [(.string ⟨#[]⟩), (.string ⟨#[]⟩)])⟩, ⟨(some 13), none, .p (.mov (.tmp 61))⟩, ⟨none, none, .e (.st 2 (.tmp 14) (.tmp 63))⟩])
  (.seq (.reg [⟨(some 65), none, .p (.mov (.tmp 8))⟩, ⟨(some 66), none, .p (.iada 2 1 (.tmp 14) (.const (.int .i64 0)))⟩, ⟨(some 67), none, .p (.ld none (.tmp 66))⟩, ⟨(some 68), none, .p (.lkp 9 (.int .i64 0) true (.tmp 65) (.tmp 67))⟩, ⟨(some 64), none, .p (.mov (.tmp 68))⟩, ⟨(some 69), none, .p (.ext (.tmp 64) 0)⟩, ⟨(some 70), none, .p (.ext (.tmp 64) 1)⟩, ⟨(some 15), none, .p (.mov (.tmp 69))⟩, ⟨(some 16), none, .p (.mov (.tmp 70))⟩])
  (.seq (.reg [⟨(some 72), none, .p (.mov (.tmp 8))⟩, ⟨(some 73), none, .p (.iada 2 1 (.tmp 14) (.const (.int .i64 1)))⟩, ⟨(some 74), none, .p (.ld none (.tmp 73))⟩, ⟨(some 75), none, .p (.lkp 9 (.int .i64 0) true (.tmp 72) (.tmp 74))⟩, ⟨(some 71), none, .p (.mov (.tmp 75))⟩, ⟨(some 76), none, .p (.ext (.tmp 71) 0)⟩, ⟨(some 77), none, .p (.ext (.tmp 71) 1)⟩, ⟨(some 17), none, .p (.mov (.tmp 76))⟩, ⟨(some 18), none, .p (.mov (.tmp 77))⟩])
  (.seq (.seq (.reg [⟨(some 78), none, .p (.mov (.tmp 16))⟩, ⟨(some 79), none, .p (.un .not (.tmp 78))⟩, ⟨(some 80), none, .p (.mov (.tmp 79))⟩, ⟨(some 81), (some (80, false)), .p (.mov (.tmp 18))⟩, ⟨(some 82), (some (80, false)), .p (.un .not (.tmp 81))⟩, ⟨(some 83), none, .p (.pick (.tmp 80) (.const (.bool true)) (.tmp 82))⟩])
  (.cond (.tmp 83) (.seq (.dreg [⟨(some 84), none, .p (.bld [(.slice none 0 0), (.slice none 0 0)] [])⟩, ⟨(some 85), none, .p (.fad 0 (.tmp 5))⟩, ⟨(some 88), none, .p (.mov (.tmp 13))⟩] [[⟨(some 86), none, .p (.ld none (.tmp 85))⟩, ⟨(some 87), none, .p (.len 1 (.tmp 86))⟩, ⟨(some 89), none, .p (.bin .add (.tmp 87) (.tmp 88))⟩, ⟨(some 90), none, .p (.bin .add (.tmp 89) (.const (.int .i64 1)))⟩, ⟨none, none, .e (.st 2 (.tmp 2) (.tmp 84))⟩, ⟨(some 3), none, .p (.mov (.tmp 90))⟩, ⟨(some 4), none, .p (.mov (.const (.int .i64 7)))⟩], [⟨(some 86), none, .p (.ld none (.tmp 85))⟩, ⟨(some 87), none, .p (.len 1 (.tmp 86))⟩, ⟨(some 89), none, .p (.bin .add (.tmp 87) (.tmp 88))⟩, ⟨none, none, .e (.st 2 (.tmp 2) (.tmp 84))⟩, ⟨(some 90), none, .p (.bin .add (.tmp 89) (.const (.int .i64 1)))⟩, ⟨(some 3), none, .p (.mov (.tmp 90))⟩, ⟨(some 4), none, .p (.mov (.const (.int .i64 7)))⟩], [⟨(some 86), none, .p (.ld none (.tmp 85))⟩, ⟨(some 87), none, .p (.len 1 (.tmp 86))⟩, ⟨none, none, .e (.st 2 (.tmp 2) (.tmp 84))⟩, ⟨(some 89), none, .p (.bin .add (.tmp 87) (.tmp 88))⟩, ⟨(some 90), none, .p (.bin .add (.tmp 89) (.const (.int .i64 1)))⟩, ⟨(some 3), none, .p (.mov (.tmp 90))⟩, ⟨(some 4), none, .p (.mov (.const (.int .i64 7)))⟩], [⟨(some 86), none, .p (.ld none (.tmp 85))⟩, ⟨none, none, .e (.st 2 (.tmp 2) (.tmp 84))⟩, ⟨(some 87), none, .p (.len 1 (.tmp 86))⟩, ⟨(some 89), none, .p (.bin .add (.tmp 87) (.tmp 88))⟩, ⟨(some 90), none, .p (.bin .add (.tmp 89) (.const (.int .i64 1)))⟩, ⟨(some 3), none, .p (.mov (.tmp 90))⟩, ⟨(some 4), none, .p (.mov (.const (.int .i64 7)))⟩], [⟨none, none, .e (.st 2 (.tmp 2) (.tmp 84))⟩, ⟨(some 86), none, .p (.ld none (.tmp 85))⟩, ⟨(some 87), none, .p (.len 1 (.tmp 86))⟩, ⟨(some 89), none, .p (.bin .add (.tmp 87) (.tmp 88))⟩, ⟨(some 90), none, .p (.bin .add (.tmp 89) (.const (.int .i64 1)))⟩, ⟨(some 3), none, .p (.mov (.tmp 90))⟩, ⟨(some 4), none, .p (.mov (.const (.int .i64 7)))⟩]])
  .ret) .skip))
  (.dreg [⟨(some 91), none, .p (.fad 1 (.tmp 5))⟩, ⟨(some 93), none, .p (.mov (.tmp 13))⟩, ⟨(some 94), none, .p (.fad 1 (.tmp 5))⟩, ⟨(some 96), none, .p (.mov (.tmp 13))⟩, ⟨(some 97), none, .p (.mov (.tmp 15))⟩, ⟨(some 98), none, .p (.mov (.tmp 17))⟩] [[⟨(some 92), none, .p (.ld none (.tmp 91))⟩, ⟨(some 95), none, .p (.ld none (.tmp 94))⟩, ⟨(some 99), none, .p (.iad 6 (.tmp 92) (.tmp 93))⟩, ⟨(some 100), none, .p (.fad 0 (.tmp 99))⟩, ⟨none, none, .e (.st 1 (.tmp 100) (.tmp 97))⟩, ⟨(some 101), none, .p (.iad 6 (.tmp 95) (.tmp 96))⟩, ⟨(some 102), none, .p (.fad 2 (.tmp 101))⟩, ⟨none, none, .e (.st 1 (.tmp 102) (.tmp 98))⟩], [⟨(some 92), none, .p (.ld none (.tmp 91))⟩, ⟨(some 99), none, .p (.iad 6 (.tmp 92) (.tmp 93))⟩, ⟨(some 95), none, .p (.ld none (.tmp 94))⟩, ⟨(some 100), none, .p (.fad 0 (.tmp 99))⟩, ⟨none, none, .e (.st 1 (.tmp 100) (.tmp 97))⟩, ⟨(some 101), none, .p (.iad 6 (.tmp 95) (.tmp 96))⟩, ⟨(some 102), none, .p (.fad 2 (.tmp 101))⟩, ⟨none, none, .e (.st 1 (.tmp 102) (.tmp 98))⟩], [⟨(some 92), none, .p (.ld none (.tmp 91))⟩, ⟨(some 99), none, .p (.iad 6 (.tmp 92) (.tmp 93))⟩, ⟨(some 100), none, .p (.fad 0 (.tmp 99))⟩, ⟨(some 95), none, .p (.ld none (.tmp 94))⟩, ⟨none, none, .e (.st 1 (.tmp 100) (.tmp 97))⟩, ⟨(some 101), none, .p (.iad 6 (.tmp 95) (.tmp 96))⟩, ⟨(some 102), none, .p (.fad 2 (.tmp 101))⟩, ⟨none, none, .e (.st 1 (.tmp 102) (.tmp 98))⟩], [⟨(some 92), none, .p (.ld none (.tmp 91))⟩, ⟨(some 99), none, .p (.iad 6 (.tmp 92) (.tmp 93))⟩, ⟨(some 100), none, .p (.fad 0 (.tmp 99))⟩, ⟨none, none, .e (.st 1 (.tmp 100) (.tmp 97))⟩, ⟨(some 95), none, .p (.ld none (.tmp 94))⟩, ⟨(some 101), none, .p (.iad 6 (.tmp 95) (.tmp 96))⟩, ⟨(some 102), none, .p (.fad 2 (.tmp 101))⟩, ⟨none, none, .e (.st 1 (.tmp 102) (.tmp 98))⟩], [⟨(some 95), none, .p (.ld none (.tmp 94))⟩, ⟨(some 92), none, .p (.ld none (.tmp 91))⟩, ⟨(some 99), none, .p (.iad 6 (.tmp 92) (.tmp 93))⟩, ⟨(some 100), none, .p (.fad 0 (.tmp 99))⟩, ⟨none, none, .e (.st 1 (.tmp 100) (.tmp 97))⟩, ⟨(some 101), none, .p (.iad 6 (.tmp 95) (.tmp 96))⟩, ⟨(some 102), none, .p (.fad 2 (.tmp 101))⟩, ⟨none, none, .e (.st 1 (.tmp 102) (.tmp 98))⟩]]))))))
  (.reg [⟨(some 103), none, .p (.bin .add (.tmp 59) (.const (.int .i64 1)))⟩, ⟨(some 59), none, .p (.mov (.tmp 103))⟩]))))
def lb29_1 : LC :=
  (.seq (.reg [⟨(some 39), none, .p (.bin .lss (.tmp 38) (.tmp 37))⟩])
  (.seq (.cond (.tmp 39) .skip (.exit 0))
  (.seq (.block 1
  (.seq (.reg [⟨(some 40), none, .p (.mov (.tmp 38))⟩, ⟨(some 41), none, .p (.iad 3 (.tmp 36) (.tmp 38))⟩, ⟨(some 42), none, .p (.ld (some 3) (.tmp 41))⟩, ⟨(some 10), none, .e (.alc [(.string ⟨#[]⟩), (.bool false), (.int .i64 0)])⟩, ⟨(some 9), none, .p (.mov (.tmp 40))⟩, ⟨none, none, .e (.st 3 (.tmp 10) (.tmp 42))⟩])
  (.seq (.reg [⟨(some 44), none, .p (.mov (.tmp 8))⟩, ⟨(some 45), none, .p (.fad 0 (.tmp 10))⟩, ⟨(some 46), none, .p (.ld none (.tmp 45))⟩, ⟨(some 47), none, .p (.lkp 9 (.int .i64 0) true (.tmp 44) (.tmp 46))⟩, ⟨(some 43), none, .p (.mov (.tmp 47))⟩, ⟨(some 48), none, .p (.ext (.tmp 43) 0)⟩, ⟨(some 49), none, .p (.ext (.tmp 43) 1)⟩, ⟨(some 11), none, .p (.mov (.tmp 48))⟩, ⟨(some 12), none, .p (.mov (.tmp 49))⟩])
  (.seq (.reg [⟨(some 50), none, .p (.mov (.tmp 12))⟩, ⟨(some 51), none, .p (.un .not (.tmp 50))⟩])
  (.cond (.tmp 51) (.reg [⟨(some 52), none, .p (.mov (.tmp 8))⟩, ⟨(some 53), none, .p (.fad 0 (.tmp 10))⟩, ⟨(some 54), none, .p (.ld none (.tmp 53))⟩, ⟨(some 55), none, .p (.mov (.tmp 9))⟩, ⟨none, none, .e (.mup 9 (.tmp 52) (.tmp 54) (.tmp 55))⟩]) .skip)))))
  (.reg [⟨(some 56), none, .p (.bin .add (.tmp 38) (.const (.int .i64 1)))⟩, ⟨(some 38), none, .p (.mov (.tmp 56))⟩]))))
/-- fairlink graph.Parse -/
def cf29 : LC :=
  (.seq (.reg [⟨(some 2), none, .e (.alc [(.slice none 0 0), (.slice none 0 0)])⟩, ⟨(some 3), none, .p (.mov (.const (.int .i64 0)))⟩, ⟨(some 4), none, .p (.mov (.const (.int .i64 0)))⟩])
  (.seq (.seq (.reg [⟨(some 20), none, .p (.mov (.tmp 0))⟩, ⟨(some 21), none, .p (.len 0 (.tmp 20))⟩, ⟨(some 22), none, .p (.bin .gtr (.tmp 21) (.const (.int .i64 65536)))⟩])
  (.cond (.tmp 22) (.seq (.reg [⟨(some 23), none, .p (.bld [(.slice none 0 0), (.slice none 0 0)] [])⟩, ⟨none, none, .e (.st 2 (.tmp 2) (.tmp 23))⟩, ⟨(some 3), none, .p (.mov (.const (.int .i64 0)))⟩, ⟨(some 4), none, .p (.mov (.const (.int .i64 5)))⟩])
  .ret) .skip))
  (.seq (.reg [⟨(some 25), none, .p (.mov (.tmp 0))⟩, ⟨(some 26), none, .e (.call 50 [(.tmp 25)])⟩, ⟨(some 24), none, .p (.mov (.tmp 26))⟩, ⟨(some 27), none, .p (.ext (.tmp 24) 0)⟩, ⟨(some 28), none, .p (.ext (.tmp 24) 1)⟩, ⟨(some 29), none, .p (.ext (.tmp 24) 2)⟩, ⟨(some 5), none, .e (.alc [(.slice none 0 0), (.slice none 0 0)])⟩, ⟨none, none, .e (.st 2 (.tmp 5) (.tmp 27))⟩, ⟨(some 6), none, .p (.mov (.tmp 28))⟩, ⟨(some 7), none, .p (.mov (.tmp 29))⟩])
  (.seq (.seq (.reg [⟨(some 30), none, .p (.mov (.tmp 7))⟩, ⟨(some 31), none, .p (.bin .gtr (.tmp 30) (.const (.int .i64 0)))⟩])
  (.cond (.tmp 31) (.seq (.reg [⟨(some 32), none, .p (.bld [(.slice none 0 0), (.slice none 0 0)] [])⟩, ⟨(some 33), none, .p (.mov (.tmp 7))⟩, ⟨none, none, .e (.st 2 (.tmp 2) (.tmp 32))⟩, ⟨(some 3), none, .p (.mov (.tmp 33))⟩, ⟨(some 4), none, .p (.mov (.const (.int .i64 3)))⟩])
  .ret) .skip))
  (.seq (.reg [⟨(some 34), none, .e (.mkm)⟩, ⟨(some 8), none, .p (.mov (.tmp 34))⟩])
  (.seq (.seq (.reg [⟨(some 35), none, .p (.fad 0 (.tmp 5))⟩, ⟨(some 36), none, .p (.ld none (.tmp 35))⟩, ⟨(some 37), none, .p (.len 1 (.tmp 36))⟩, ⟨(some 38), none, .p (.mov (.const (.int .i64 0)))⟩])
  (.block 0
  (.loop lb29_1)))
  (.seq (.seq (.reg [⟨(some 57), none, .p (.mov (.tmp 6))⟩, ⟨(some 58), none, .p (.len 1 (.tmp 57))⟩, ⟨(some 59), none, .p (.mov (.const (.int .i64 0)))⟩])
  (.block 2
  (.loop lb29_0)))
  (.seq (.seq (.reg [⟨(some 104), none, .p (.ld (some 2) (.tmp 5))⟩, ⟨(some 105), none, .e (.call 13 [(.tmp 104)])⟩, ⟨(some 19), none, .p (.mov (.tmp 105))⟩])
  (.seq (.reg [⟨(some 106), none, .p (.mov (.tmp 19))⟩, ⟨(some 107), none, .p (.bin .neq (.tmp 106) (.const (.int .i64 0)))⟩])
  (.cond (.tmp 107) (.seq (.reg [⟨(some 108), none, .p (.bld [(.slice none 0 0), (.slice none 0 0)] [])⟩, ⟨(some 109), none, .p (.mov (.tmp 19))⟩, ⟨none, none, .e (.st 2 (.tmp 2) (.tmp 108))⟩, ⟨(some 3), none, .p (.mov (.const (.int .i64 0)))⟩, ⟨(some 4), none, .p (.mov (.tmp 109))⟩])
  .ret) .skip)))
  (.seq (.reg [⟨(some 110), none, .p (.ld (some 2) (.tmp 5))⟩, ⟨none, none, .e (.st 2 (.tmp 2) (.tmp 110))⟩, ⟨(some 3), none, .p (.mov (.const (.int .i64 0)))⟩, ⟨(some 4), none, .p (.mov (.const (.int .i64 0)))⟩])
  .ret)))))))))
def rf29 : List RX := [.cell 2 (some 2), .tmp 3, .tmp 4]
set_option maxRecDepth 100000 in
theorem comp29 : cFn Tryd.prog Tryd.f29 = some (erase cf29, rf29) := by kernel_rfl
/-- fairlink graph.validNode -/
def cf36 : LC :=
  (.seq (.reg [⟨(some 1), none, .e (.box (.tmp 0))⟩, ⟨(some 2), none, .p (.mov (.const (.bool false)))⟩])
  (.seq (.seq (.reg [⟨(some 3), none, .p (.fad 0 (.tmp 1))⟩, ⟨(some 4), none, .p (.ld none (.tmp 3))⟩, ⟨(some 5), none, .e (.call 57 [(.tmp 4)])⟩, ⟨(some 6), none, .p (.un .not (.tmp 5))⟩])
  (.cond (.tmp 6) (.seq (.reg [⟨(some 2), none, .p (.mov (.const (.bool false)))⟩])
  .ret) .skip))
  (.seq (.seq (.reg [⟨(some 7), none, .p (.fad 1 (.tmp 1))⟩, ⟨(some 8), none, .p (.ld none (.tmp 7))⟩])
  (.cond (.tmp 8) (.seq (.reg [⟨(some 9), none, .p (.fad 2 (.tmp 1))⟩, ⟨(some 10), none, .p (.ld none (.tmp 9))⟩, ⟨(some 11), none, .p (.bin .geq (.tmp 10) (.const (.int .i64 1)))⟩, ⟨(some 12), none, .p (.mov (.tmp 11))⟩, ⟨(some 13), (some (12, true)), .p (.fad 2 (.tmp 1))⟩, ⟨(some 14), (some (12, true)), .p (.ld none (.tmp 13))⟩, ⟨(some 15), (some (12, true)), .p (.bin .leq (.tmp 14) (.const (.int .i64 8)))⟩, ⟨(some 16), none, .p (.pick (.tmp 12) (.tmp 15) (.const (.bool false)))⟩, ⟨(some 2), none, .p (.mov (.tmp 16))⟩])
  .ret) .skip))
  (.seq (.reg [⟨(some 17), none, .p (.fad 2 (.tmp 1))⟩, ⟨(some 18), none, .p (.ld none (.tmp 17))⟩, ⟨(some 19), none, .p (.bin .eql (.tmp 18) (.const (.int .i64 1)))⟩, ⟨(some 2), none, .p (.mov (.tmp 19))⟩])
  .ret))))
def rf36 : List RX := [.tmp 2]
set_option maxRecDepth 100000 in
theorem comp36 : cFn Tryd.prog Tryd.f36 = some (erase cf36, rf36) := by kernel_rfl
/-- fairlink graph.hasPort -/
def cf37 : LC :=
  (.seq (.reg [⟨(some 3), none, .e (.box (.tmp 0))⟩, ⟨(some 6), none, .p (.mov (.const (.bool false)))⟩])
  (.seq (.reg [⟨(some 7), none, .p (.mov (.tmp 1))⟩, ⟨(some 8), none, .p (.bin .geq (.tmp 7) (.const (.int .i64 0)))⟩, ⟨(some 9), none, .p (.mov (.tmp 8))⟩, ⟨(some 10), (some (9, true)), .p (.mov (.tmp 1))⟩, ⟨(some 11), (some (9, true)), .p (.fad 0 (.tmp 3))⟩, ⟨(some 12), (some (9, true)), .p (.ld none (.tmp 11))⟩, ⟨(some 13), (some (9, true)), .p (.len 1 (.tmp 12))⟩, ⟨(some 14), (some (9, true)), .p (.bin .lss (.tmp 10) (.tmp 13))⟩, ⟨(some 15), none, .p (.pick (.tmp 9) (.tmp 14) (.const (.bool false)))⟩, ⟨(some 16), none, .p (.mov (.tmp 15))⟩, ⟨(some 17), (some (16, true)), .p (.mov (.tmp 2))⟩, ⟨(some 18), (some (16, true)), .p (.bin .geq (.tmp 17) (.const (.int .i64 0)))⟩, ⟨(some 19), none, .p (.pick (.tmp 16) (.tmp 18) (.const (.bool false)))⟩, ⟨(some 20), none, .p (.mov (.tmp 19))⟩, ⟨(some 21), (some (20, true)), .p (.mov (.tmp 2))⟩, ⟨(some 22), (some (20, true)), .p (.fad 0 (.tmp 3))⟩, ⟨(some 23), (some (20, true)), .p (.ld none (.tmp 22))⟩, ⟨(some 24), (some (20, true)), .p (.mov (.tmp 1))⟩, ⟨(some 25), (some (20, true)), .p (.iad 3 (.tmp 23) (.tmp 24))⟩, ⟨(some 26), (some (20, true)), .p (.fad 2 (.tmp 25))⟩, ⟨(some 27), (some (20, true)), .p (.ld none (.tmp 26))⟩, ⟨(some 28), (some (20, true)), .p (.bin .lss (.tmp 21) (.tmp 27))⟩, ⟨(some 29), none, .p (.pick (.tmp 20) (.tmp 28) (.const (.bool false)))⟩, ⟨(some 6), none, .p (.mov (.tmp 29))⟩])
  .ret))
def rf37 : List RX := [.tmp 6]
set_option maxRecDepth 100000 in
theorem comp37 : cFn Tryd.prog Tryd.f37 = some (erase cf37, rf37) := by kernel_rfl
def lb38_0 : LC :=
  (.seq (.reg [⟨(some 47), none, .p (.bin .lss (.tmp 46) (.const (.int .i64 2)))⟩])
  (.seq (.cond (.tmp 47) .skip (.exit 4))
  (.seq (.block 5
  (.seq (.reg [⟨(some 48), none, .p (.idxa 2 2 (some 2) (.tmp 45) (.tmp 46))⟩, ⟨(some 10), none, .e (.alc [(.int .i64 0), (.int .i64 0)])⟩, ⟨none, none, .e (.st 2 (.tmp 10) (.tmp 48))⟩])
  (.seq (.seq (.reg [⟨(some 49), none, .p (.mov (.tmp 6))⟩, ⟨(some 50), none, .p (.ld (some 2) (.tmp 10))⟩, ⟨(some 51), none, .p (.lkp 91 (.bool false) false (.tmp 49) (.tmp 50))⟩])
  (.cond (.tmp 51) (.seq (.reg [⟨(some 2), none, .p (.mov (.const (.bool true)))⟩])
  .ret) .skip))
  (.reg [⟨(some 52), none, .p (.mov (.tmp 6))⟩, ⟨(some 53), none, .p (.ld (some 2) (.tmp 10))⟩, ⟨none, none, .e (.mup 91 (.tmp 52) (.tmp 53) (.const (.bool true)))⟩]))))
  (.reg [⟨(some 54), none, .p (.bin .add (.tmp 46) (.const (.int .i64 1)))⟩, ⟨(some 46), none, .p (.mov (.tmp 54))⟩]))))
def lb38_1 : LC :=
  (.seq (.reg [⟨(some 32), none, .p (.bin .lss (.tmp 31) (.tmp 30))⟩])
  (.seq (.cond (.tmp 32) .skip (.exit 2))
  (.seq (.block 3
  (.seq (.reg [⟨(some 33), none, .p (.iad 6 (.tmp 29) (.tmp 31))⟩, ⟨(some 34), none, .p (.ld (some 6) (.tmp 33))⟩, ⟨(some 8), none, .e (.alc [(.int .i64 0), (.int .i64 0), (.int .i64 0), (.int .i64 0), (.int .i64 0), (.int .i64 0)])⟩, ⟨none, none, .e (.st 6 (.tmp 8) (.tmp 34))⟩])
  (.seq (.reg [⟨(some 35), none, .p (.fad 0 (.tmp 8))⟩, ⟨(some 36), none, .p (.ld none (.tmp 35))⟩, ⟨(some 37), none, .p (.fad 1 (.tmp 8))⟩, ⟨(some 38), none, .p (.ld none (.tmp 37))⟩, ⟨(some 39), none, .p (.bld [(.int .i64 0), (.int .i64 0)] [(0, 1, (.tmp 36)), (1, 1, (.tmp 38))])⟩, ⟨(some 40), none, .p (.fad 2 (.tmp 8))⟩, ⟨(some 41), none, .p (.ld none (.tmp 40))⟩, ⟨(some 42), none, .p (.fad 3 (.tmp 8))⟩, ⟨(some 43), none, .p (.ld none (.tmp 42))⟩, ⟨(some 44), none, .p (.bld [(.int .i64 0), (.int .i64 0)] [(0, 1, (.tmp 41)), (1, 1, (.tmp 43))])⟩, ⟨(some 45), none, .p (.bld [(.int .i64 0), (.int .i64 0), (.int .i64 0), (.int .i64 0)] [(0, 2, (.tmp 39)), (2, 2, (.tmp 44))])⟩, ⟨(some 46), none, .p (.mov (.const (.int .i64 0)))⟩])
  (.block 4
  (.loop lb38_0)))))
  (.reg [⟨(some 55), none, .p (.bin .add (.tmp 31) (.const (.int .i64 1)))⟩, ⟨(some 31), none, .p (.mov (.tmp 55))⟩]))))
def lb38_2 : LC :=
  (.seq (.reg [⟨(some 16), none, .p (.bin .lss (.tmp 15) (.tmp 14))⟩])
  (.seq (.cond (.tmp 16) .skip (.exit 0))
  (.seq (.block 1
  (.seq (.reg [⟨(some 17), none, .p (.iad 3 (.tmp 13) (.tmp 15))⟩, ⟨(some 18), none, .p (.ld (some 3) (.tmp 17))⟩, ⟨(some 5), none, .e (.alc [(.string ⟨#[]⟩), (.bool false), (.int .i64 0)])⟩, ⟨none, none, .e (.st 3 (.tmp 5) (.tmp 18))⟩])
  (.seq (.seq (.reg [⟨(some 19), none, .p (.mov (.tmp 3))⟩, ⟨(some 20), none, .p (.fad 0 (.tmp 5))⟩, ⟨(some 21), none, .p (.ld none (.tmp 20))⟩, ⟨(some 22), none, .p (.lkp 9 (.bool false) false (.tmp 19) (.tmp 21))⟩])
  (.cond (.tmp 22) (.seq (.reg [⟨(some 2), none, .p (.mov (.const (.bool true)))⟩])
  .ret) .skip))
  (.reg [⟨(some 23), none, .p (.mov (.tmp 3))⟩, ⟨(some 24), none, .p (.fad 0 (.tmp 5))⟩, ⟨(some 25), none, .p (.ld none (.tmp 24))⟩, ⟨none, none, .e (.mup 9 (.tmp 23) (.tmp 25) (.const (.bool true)))⟩]))))
  (.reg [⟨(some 26), none, .p (.bin .add (.tmp 15) (.const (.int .i64 1)))⟩, ⟨(some 15), none, .p (.mov (.tmp 26))⟩]))))
/-- fairlink graph.repeats -/
def cf38 : LC :=
  (.seq (.reg [⟨(some 1), none, .e (.box (.tmp 0))⟩, ⟨(some 2), none, .p (.mov (.const (.bool false)))⟩])
  (.seq (.reg [⟨(some 11), none, .e (.mkm)⟩, ⟨(some 3), none, .p (.mov (.tmp 11))⟩])
  (.seq (.seq (.reg [⟨(some 12), none, .p (.fad 0 (.tmp 1))⟩, ⟨(some 13), none, .p (.ld none (.tmp 12))⟩, ⟨(some 14), none, .p (.len 1 (.tmp 13))⟩, ⟨(some 15), none, .p (.mov (.const (.int .i64 0)))⟩])
  (.block 0
  (.loop lb38_2)))
  (.seq (.reg [⟨(some 27), none, .e (.mkm)⟩, ⟨(some 6), none, .p (.mov (.tmp 27))⟩])
  (.seq (.seq (.reg [⟨(some 28), none, .p (.fad 1 (.tmp 1))⟩, ⟨(some 29), none, .p (.ld none (.tmp 28))⟩, ⟨(some 30), none, .p (.len 1 (.tmp 29))⟩, ⟨(some 31), none, .p (.mov (.const (.int .i64 0)))⟩])
  (.block 2
  (.loop lb38_1)))
  (.seq (.reg [⟨(some 2), none, .p (.mov (.const (.bool false)))⟩])
  .ret))))))
def rf38 : List RX := [.tmp 2]
set_option maxRecDepth 100000 in
theorem comp38 : cFn Tryd.prog Tryd.f38 = some (erase cf38, rf38) := by kernel_rfl
/-- fairlink graph.usable -/
def cf42 : LC :=
  (.seq (.reg [⟨(some 2), none, .e (.box (.tmp 0))⟩, ⟨(some 4), none, .p (.mov (.const (.bool false)))⟩])
  (.seq (.reg [⟨(some 5), none, .p (.ld (some 2) (.tmp 2))⟩, ⟨(some 6), none, .e (.call 13 [(.tmp 5)])⟩, ⟨(some 7), none, .p (.bin .eql (.tmp 6) (.const (.int .i64 0)))⟩, ⟨(some 8), none, .p (.mov (.tmp 7))⟩, ⟨(some 9), (some (8, true)), .p (.mov (.tmp 1))⟩, ⟨(some 10), (some (8, true)), .p (.len 1 (.tmp 9))⟩, ⟨(some 11), (some (8, true)), .p (.fad 1 (.tmp 2))⟩, ⟨(some 12), (some (8, true)), .p (.ld none (.tmp 11))⟩, ⟨(some 13), (some (8, true)), .p (.len 1 (.tmp 12))⟩, ⟨(some 14), (some (8, true)), .p (.bin .eql (.tmp 10) (.tmp 13))⟩, ⟨(some 15), none, .p (.pick (.tmp 8) (.tmp 14) (.const (.bool false)))⟩, ⟨(some 4), none, .p (.mov (.tmp 15))⟩])
  .ret))
def rf42 : List RX := [.tmp 4]
set_option maxRecDepth 100000 in
theorem comp42 : cFn Tryd.prog Tryd.f42 = some (erase cf42, rf42) := by kernel_rfl
def lb43_0 : LC :=
  (.seq (.reg [⟨(some 45), none, .p (.bin .lss (.tmp 44) (.tmp 43))⟩])
  (.seq (.cond (.tmp 45) .skip (.exit 4))
  (.seq (.block 5
  (.seq (.reg [⟨(some 46), none, .p (.mov (.tmp 44))⟩, ⟨(some 47), none, .p (.iad 6 (.tmp 42) (.tmp 44))⟩, ⟨(some 48), none, .p (.ld (some 6) (.tmp 47))⟩, ⟨(some 13), none, .e (.alc [(.int .i64 0), (.int .i64 0), (.int .i64 0), (.int .i64 0), (.int .i64 0), (.int .i64 0)])⟩, ⟨(some 12), none, .p (.mov (.tmp 46))⟩, ⟨none, none, .e (.st 6 (.tmp 13) (.tmp 48))⟩])
  (.seq (.seq (.reg [⟨(some 49), none, .p (.mov (.tmp 2))⟩, ⟨(some 50), none, .p (.mov (.tmp 12))⟩, ⟨(some 51), none, .p (.iad 1 (.tmp 49) (.tmp 50))⟩, ⟨(some 52), none, .p (.ld none (.tmp 51))⟩, ⟨(some 53), none, .p (.mov (.tmp 52))⟩, ⟨(some 54), (some (53, true)), .p (.fad 0 (.tmp 13))⟩, ⟨(some 55), (some (53, true)), .p (.ld none (.tmp 54))⟩, ⟨(some 56), (some (53, true)), .p (.ld none (.tmp 10))⟩, ⟨(some 57), (some (53, true)), .p (.bin .eql (.tmp 55) (.tmp 56))⟩, ⟨(some 58), none, .p (.pick (.tmp 53) (.tmp 57) (.const (.bool false)))⟩])
  (.cond (.tmp 58) (.reg [⟨(some 59), none, .p (.mov (.tmp 11))⟩, ⟨(some 60), none, .p (.fad 2 (.tmp 13))⟩, ⟨(some 61), none, .p (.ld none (.tmp 60))⟩, ⟨(some 62), none, .e (.calv (.tmp 59) [(.tmp 61)])⟩]) .skip))
  (.seq (.reg [⟨(some 63), none, .p (.mov (.tmp 2))⟩, ⟨(some 64), none, .p (.mov (.tmp 12))⟩, ⟨(some 65), none, .p (.iad 1 (.tmp 63) (.tmp 64))⟩, ⟨(some 66), none, .p (.ld none (.tmp 65))⟩, ⟨(some 67), none, .p (.mov (.tmp 66))⟩, ⟨(some 68), (some (67, true)), .p (.fad 2 (.tmp 13))⟩, ⟨(some 69), (some (67, true)), .p (.ld none (.tmp 68))⟩, ⟨(some 70), (some (67, true)), .p (.ld none (.tmp 10))⟩, ⟨(some 71), (some (67, true)), .p (.bin .eql (.tmp 69) (.tmp 70))⟩, ⟨(some 72), none, .p (.pick (.tmp 67) (.tmp 71) (.const (.bool false)))⟩])
  (.cond (.tmp 72) (.reg [⟨(some 73), none, .p (.mov (.tmp 11))⟩, ⟨(some 74), none, .p (.fad 0 (.tmp 13))⟩, ⟨(some 75), none, .p (.ld none (.tmp 74))⟩, ⟨(some 76), none, .e (.calv (.tmp 73) [(.tmp 75)])⟩]) .skip)))))
  (.reg [⟨(some 77), none, .p (.bin .add (.tmp 44) (.const (.int .i64 1)))⟩, ⟨(some 44), none, .p (.mov (.tmp 77))⟩]))))
def lb43_1 : LC :=
  (.seq (.seq (.reg [⟨(some 32), none, .p (.ld none (.tmp 9))⟩, ⟨(some 33), none, .p (.len 1 (.tmp 32))⟩, ⟨(some 34), none, .p (.bin .gtr (.tmp 33) (.const (.int .i64 0)))⟩])
  (.cond (.tmp 34) .skip (.exit 2)))
  (.block 3
  (.seq (.reg [⟨(some 35), none, .p (.ld none (.tmp 9))⟩, ⟨(some 36), none, .p (.iad 1 (.tmp 35) (.const (.int .i64 0)))⟩, ⟨(some 37), none, .p (.ld none (.tmp 36))⟩, ⟨(some 10), none, .e (.alc [(.int .i64 0)])⟩, ⟨none, none, .e (.st 1 (.tmp 10) (.tmp 37))⟩])
  (.seq (.reg [⟨(some 38), none, .p (.ld none (.tmp 9))⟩, ⟨(some 39), none, .p (.slc 1 (.tmp 38) (some (.const (.int .i64 1))) none)⟩, ⟨none, none, .e (.st 1 (.tmp 9) (.tmp 39))⟩])
  (.seq (.reg [⟨(some 40), none, .p (.mkf 58 [(.tmp 7), (.tmp 10), (.tmp 9)])⟩, ⟨(some 11), none, .p (.mov (.tmp 40))⟩])
  (.seq (.reg [⟨(some 41), none, .p (.fad 1 (.tmp 3))⟩, ⟨(some 42), none, .p (.ld none (.tmp 41))⟩, ⟨(some 43), none, .p (.len 1 (.tmp 42))⟩, ⟨(some 44), none, .p (.mov (.const (.int .i64 0)))⟩])
  (.block 4
  (.loop lb43_0))))))))
def lb43_2 : LC :=
  (.seq (.reg [⟨(some 21), none, .p (.bin .lss (.tmp 20) (.tmp 19))⟩])
  (.seq (.cond (.tmp 21) .skip (.exit 0))
  (.seq (.block 1
  (.seq (.reg [⟨(some 22), none, .p (.mov (.tmp 20))⟩, ⟨(some 8), none, .p (.mov (.tmp 22))⟩])
  (.reg [⟨(some 23), none, .p (.ld none (.tmp 7))⟩, ⟨(some 24), none, .p (.mov (.tmp 8))⟩, ⟨(some 25), none, .p (.iad 1 (.tmp 23) (.tmp 24))⟩, ⟨none, none, .e (.st 1 (.tmp 25) (.const (.int .i64 (-1))))⟩])))
  (.reg [⟨(some 26), none, .p (.bin .add (.tmp 20) (.const (.int .i64 1)))⟩, ⟨(some 20), none, .p (.mov (.tmp 26))⟩]))))
/-- fairlink graph.distances -/
def cf43 : LC :=
  (.seq (.reg [⟨(some 3), none, .e (.box (.tmp 0))⟩, ⟨(some 6), none, .p (.mov (.const (.slice none 0 0)))⟩])
  (.seq (.reg [⟨(some 14), none, .p (.fad 0 (.tmp 3))⟩, ⟨(some 15), none, .p (.ld none (.tmp 14))⟩, ⟨(some 16), none, .p (.len 1 (.tmp 15))⟩, ⟨(some 17), none, .e (.mks 1 1 [(.int .i64 0)] 8 (.tmp 16) (.tmp 16))⟩, ⟨(some 7), none, .e (.alc [(.slice none 0 0)])⟩, ⟨none, none, .e (.st 1 (.tmp 7) (.tmp 17))⟩])
  (.seq (.seq (.reg [⟨(some 18), none, .p (.ld none (.tmp 7))⟩, ⟨(some 19), none, .p (.len 1 (.tmp 18))⟩, ⟨(some 20), none, .p (.mov (.const (.int .i64 0)))⟩])
  (.block 0
  (.loop lb43_2)))
  (.seq (.reg [⟨(some 27), none, .p (.ld none (.tmp 7))⟩, ⟨(some 28), none, .p (.mov (.tmp 1))⟩, ⟨(some 29), none, .p (.iad 1 (.tmp 27) (.tmp 28))⟩, ⟨none, none, .e (.st 1 (.tmp 29) (.const (.int .i64 0)))⟩])
  (.seq (.reg [⟨(some 30), none, .p (.mov (.tmp 1))⟩, ⟨(some 31), none, .e (.bsl 1 1 1 [(.int .i64 0)] [(0, 1, (.tmp 30))])⟩, ⟨(some 9), none, .e (.alc [(.slice none 0 0)])⟩, ⟨none, none, .e (.st 1 (.tmp 9) (.tmp 31))⟩])
  (.seq (.block 2
  (.loop lb43_1))
  (.seq (.reg [⟨(some 78), none, .p (.ld none (.tmp 7))⟩, ⟨(some 6), none, .p (.mov (.tmp 78))⟩])
  .ret)))))))
def rf43 : List RX := [.tmp 6]
set_option maxRecDepth 100000 in
theorem comp43 : cFn Tryd.prog Tryd.f43 = some (erase cf43, rf43) := by kernel_rfl
/-- fairlink graph.Format 1 -/
def cf45 : LC :=
  (.seq (.reg [⟨(some 3), none, .p (.mov (.tmp 0))⟩, ⟨(some 4), none, .e (.call 33 [(.tmp 3), (.const (.string ⟨#[32]⟩))])⟩, ⟨(some 5), none, .e (.call 46 [(.tmp 1), (.tmp 4)])⟩])
  (.reg [⟨(some 6), none, .e (.call 47 [(.tmp 1), (.const (.int .u8 10))])⟩]))
def rf45 : List RX := []
set_option maxRecDepth 100000 in
theorem comp45 : cFn Tryd.prog Tryd.f45 = some (erase cf45, rf45) := by kernel_rfl
def lb50_0 : LC :=
  (.seq (.seq (.reg [⟨(some 17), none, .p (.mov (.tmp 0))⟩, ⟨(some 18), none, .p (.bin .neq (.tmp 17) (.const (.string ⟨#[]⟩)))⟩])
  (.cond (.tmp 18) .skip (.exit 0)))
  (.seq (.block 1
  (.seq (.reg [⟨(some 22), none, .p (.mov (.tmp 0))⟩, ⟨(some 23), none, .e (.call 61 [(.tmp 22), (.const (.string ⟨#[10]⟩))])⟩, ⟨(some 21), none, .p (.mov (.tmp 23))⟩, ⟨(some 24), none, .p (.ext (.tmp 21) 0)⟩, ⟨(some 25), none, .p (.ext (.tmp 21) 1)⟩, ⟨(some 26), none, .p (.ext (.tmp 21) 2)⟩, ⟨(some 8), none, .p (.mov (.tmp 24))⟩, ⟨(some 9), none, .p (.mov (.tmp 25))⟩, ⟨(some 10), none, .p (.mov (.tmp 26))⟩])
  (.seq (.reg [⟨(some 27), none, .p (.mov (.tmp 8))⟩, ⟨(some 28), none, .e (.call 62 [(.tmp 27), (.const (.string ⟨#[32]⟩))])⟩, ⟨(some 11), none, .p (.mov (.tmp 28))⟩])
  (.seq (.reg [⟨(some 30), none, .p (.mov (.tmp 11))⟩, ⟨(some 31), none, .e (.call 63 [(.tmp 30)])⟩, ⟨(some 29), none, .p (.mov (.tmp 31))⟩, ⟨(some 32), none, .p (.ext (.tmp 29) 0)⟩, ⟨(some 33), none, .p (.ext (.tmp 29) 1)⟩, ⟨(some 12), none, .e (.alc [(.string ⟨#[]⟩), (.bool false), (.int .i64 0)])⟩, ⟨none, none, .e (.st 3 (.tmp 12) (.tmp 32))⟩, ⟨(some 13), none, .p (.mov (.tmp 33))⟩])
  (.seq (.reg [⟨(some 35), none, .p (.mov (.tmp 11))⟩, ⟨(some 36), none, .e (.call 64 [(.tmp 35)])⟩, ⟨(some 34), none, .p (.mov (.tmp 36))⟩, ⟨(some 37), none, .p (.ext (.tmp 34) 0)⟩, ⟨(some 38), none, .p (.ext (.tmp 34) 1)⟩, ⟨(some 39), none, .p (.ext (.tmp 34) 2)⟩, ⟨(some 14), none, .e (.alc [(.int .i64 0), (.int .i64 0), (.int .i64 0), (.int .i64 0), (.int .i64 0), (.int .i64 0)])⟩, ⟨(some 15), none, .e (.alc [(.string ⟨#[]⟩), (.string ⟨#[]⟩)])⟩, ⟨none, none, .e (.st 6 (.tmp 14) (.tmp 37))⟩, ⟨none, none, .e (.st 2 (.tmp 15) (.tmp 38))⟩, ⟨(some 16), none, .p (.mov (.tmp 39))⟩])
  (.seq (.block 2
  (.seq (.reg [⟨(some 43), none, .p (.mov (.tmp 10))⟩, ⟨(some 44), none, .p (.mov (.tmp 43))⟩, ⟨(some 45), (some (44, true)), .p (.mov (.tmp 13))⟩, ⟨(some 46), none, .p (.pick (.tmp 44) (.tmp 45) (.const (.bool false)))⟩, ⟨(some 47), none, .p (.mov (.tmp 46))⟩, ⟨(some 48), (some (47, true)), .p (.fad 1 (.tmp 5))⟩, ⟨(some 49), (some (47, true)), .p (.ld none (.tmp 48))⟩, ⟨(some 50), (some (47, true)), .p (.len 1 (.tmp 49))⟩, ⟨(some 51), (some (47, true)), .p (.bin .eql (.tmp 50) (.const (.int .i64 0)))⟩, ⟨(some 52), none, .p (.pick (.tmp 47) (.tmp 51) (.const (.bool false)))⟩, ⟨(some 42), none, .p (.mov (.tmp 52))⟩])
  (.cond (.tmp 42) (.reg [⟨(some 53), none, .p (.fad 0 (.tmp 5))⟩, ⟨(some 54), none, .p (.ld none (.tmp 53))⟩, ⟨(some 55), none, .p (.ld (some 3) (.tmp 12))⟩, ⟨(some 56), none, .e (.bsl 0 1 3 [(.string ⟨#[]⟩), (.bool false), (.int .i64 0)] [(0, 3, (.tmp 55))])⟩, ⟨(some 57), none, .e (.app 0 3 32 (.tmp 54) (.tmp 56))⟩, ⟨(some 58), none, .p (.fad 0 (.tmp 5))⟩, ⟨none, none, .e (.st 1 (.tmp 58) (.tmp 57))⟩]) (.seq (.reg [⟨(some 60), none, .p (.mov (.tmp 10))⟩, ⟨(some 61), none, .p (.mov (.tmp 60))⟩, ⟨(some 62), (some (61, true)), .p (.mov (.tmp 16))⟩, ⟨(some 63), none, .p (.pick (.tmp 61) (.tmp 62) (.const (.bool false)))⟩, ⟨(some 59), none, .p (.mov (.tmp 63))⟩])
  (.cond (.tmp 59) (.seq (.reg [⟨(some 64), none, .p (.fad 1 (.tmp 5))⟩, ⟨(some 65), none, .p (.ld none (.tmp 64))⟩, ⟨(some 66), none, .p (.ld (some 6) (.tmp 14))⟩, ⟨(some 67), none, .e (.bsl 0 1 6 [(.int .i64 0), (.int .i64 0), (.int .i64 0), (.int .i64 0), (.int .i64 0), (.int .i64 0)] [(0, 6, (.tmp 66))])⟩, ⟨(some 68), none, .e (.app 0 6 48 (.tmp 65) (.tmp 67))⟩, ⟨(some 69), none, .p (.fad 1 (.tmp 5))⟩, ⟨none, none, .e (.st 1 (.tmp 69) (.tmp 68))⟩])
  (.reg [⟨(some 70), none, .p (.mov (.tmp 6))⟩, ⟨(some 71), none, .p (.ld (some 2) (.tmp 15))⟩, ⟨(some 72), none, .e (.bsl 0 1 2 [(.string ⟨#[]⟩), (.string ⟨#[]⟩)] [(0, 2, (.tmp 71))])⟩, ⟨(some 73), none, .e (.app 0 2 32 (.tmp 70) (.tmp 72))⟩, ⟨(some 6), none, .p (.mov (.tmp 73))⟩])) (.seq (.reg [⟨(some 40), none, .p (.bld [(.slice none 0 0), (.slice none 0 0)] [])⟩, ⟨(some 41), none, .p (.mov (.tmp 7))⟩, ⟨none, none, .e (.st 2 (.tmp 2) (.tmp 40))⟩, ⟨(some 3), none, .p (.mov (.const (.slice none 0 0)))⟩, ⟨(some 4), none, .p (.mov (.tmp 41))⟩])
  .ret))))))
  (.reg [⟨(some 74), none, .p (.mov (.tmp 9))⟩, ⟨(some 0), none, .p (.mov (.tmp 74))⟩])))))))
  (.reg [⟨(some 19), none, .p (.mov (.tmp 7))⟩, ⟨(some 20), none, .p (.bin .add (.tmp 19) (.const (.int .i64 1)))⟩, ⟨(some 7), none, .p (.mov (.tmp 20))⟩])))
/-- fairlink graph.readLines -/
def cf50 : LC :=
  (.seq (.reg [⟨(some 2), none, .e (.alc [(.slice none 0 0), (.slice none 0 0)])⟩, ⟨(some 3), none, .p (.mov (.const (.slice none 0 0)))⟩, ⟨(some 4), none, .p (.mov (.const (.int .i64 0)))⟩])
  (.seq (.reg [⟨(some 5), none, .e (.alc [(.slice none 0 0), (.slice none 0 0)])⟩])
  (.seq (.reg [⟨(some 6), none, .p (.mov (.const (.slice none 0 0)))⟩])
  (.seq (.seq (.reg [⟨(some 7), none, .p (.mov (.const (.int .i64 1)))⟩])
  (.block 0
  (.loop lb50_0)))
  (.seq (.reg [⟨(some 75), none, .p (.ld (some 2) (.tmp 5))⟩, ⟨(some 76), none, .p (.mov (.tmp 6))⟩, ⟨none, none, .e (.st 2 (.tmp 2) (.tmp 75))⟩, ⟨(some 3), none, .p (.mov (.tmp 76))⟩, ⟨(some 4), none, .p (.mov (.const (.int .i64 0)))⟩])
  .ret)))))
def rf50 : List RX := [.cell 2 (some 2), .tmp 3, .tmp 4]
set_option maxRecDepth 100000 in
theorem comp50 : cFn Tryd.prog Tryd.f50 = some (erase cf50, rf50) := by kernel_rfl
end Go.Proofs.YtchpncmmlhfemaaDoor
namespace Go.Proofs.YtchpncmmlhfemaaDoor
def lb57_0 : LC :=
  (.seq (.reg [⟨(some 17), none, .p (.bin .lss (.tmp 16) (.tmp 15))⟩])
  (.seq (.cond (.tmp 17) .skip (.exit 0))
  (.seq (.block 1
  (.seq (.reg [⟨(some 18), none, .p (.mov (.tmp 16))⟩, ⟨(some 3), none, .p (.mov (.tmp 18))⟩])
  (.seq (.reg [⟨(some 19), none, .p (.mov (.tmp 0))⟩, ⟨(some 20), none, .p (.mov (.tmp 3))⟩, ⟨(some 21), none, .p (.idxs (.tmp 19) (.tmp 20))⟩, ⟨(some 22), none, .p (.bin .geq (.tmp 21) (.const (.int .u8 97)))⟩, ⟨(some 23), none, .p (.mov (.tmp 22))⟩, ⟨(some 24), (some (23, true)), .p (.mov (.tmp 0))⟩, ⟨(some 25), (some (23, true)), .p (.mov (.tmp 3))⟩, ⟨(some 26), (some (23, true)), .p (.idxs (.tmp 24) (.tmp 25))⟩, ⟨(some 27), (some (23, true)), .p (.bin .leq (.tmp 26) (.const (.int .u8 122)))⟩, ⟨(some 28), none, .p (.pick (.tmp 23) (.tmp 27) (.const (.bool false)))⟩, ⟨(some 4), none, .p (.mov (.tmp 28))⟩])
  (.seq (.reg [⟨(some 29), none, .p (.mov (.tmp 0))⟩, ⟨(some 30), none, .p (.mov (.tmp 3))⟩, ⟨(some 31), none, .p (.idxs (.tmp 29) (.tmp 30))⟩, ⟨(some 32), none, .p (.bin .geq (.tmp 31) (.const (.int .u8 48)))⟩, ⟨(some 33), none, .p (.mov (.tmp 32))⟩, ⟨(some 34), (some (33, true)), .p (.mov (.tmp 0))⟩, ⟨(some 35), (some (33, true)), .p (.mov (.tmp 3))⟩, ⟨(some 36), (some (33, true)), .p (.idxs (.tmp 34) (.tmp 35))⟩, ⟨(some 37), (some (33, true)), .p (.bin .leq (.tmp 36) (.const (.int .u8 57)))⟩, ⟨(some 38), none, .p (.pick (.tmp 33) (.tmp 37) (.const (.bool false)))⟩, ⟨(some 5), none, .p (.mov (.tmp 38))⟩])
  (.seq (.reg [⟨(some 39), none, .p (.mov (.tmp 4))⟩, ⟨(some 40), none, .p (.un .not (.tmp 39))⟩, ⟨(some 41), none, .p (.mov (.tmp 40))⟩, ⟨(some 42), (some (41, true)), .p (.mov (.tmp 3))⟩, ⟨(some 43), (some (41, true)), .p (.bin .eql (.tmp 42) (.const (.int .i64 0)))⟩, ⟨(some 44), (some (41, true)), .p (.mov (.tmp 43))⟩, ⟨(some 45), (some (44, false)), .p (.mov (.tmp 5))⟩, ⟨(some 46), (some (44, false)), .p (.un .not (.tmp 45))⟩, ⟨(some 47), (some (41, true)), .p (.pick (.tmp 44) (.const (.bool true)) (.tmp 46))⟩, ⟨(some 48), none, .p (.pick (.tmp 41) (.tmp 47) (.const (.bool false)))⟩])
  (.cond (.tmp 48) (.seq (.reg [⟨(some 2), none, .p (.mov (.const (.bool false)))⟩])
  .ret) .skip))))))
  (.reg [⟨(some 49), none, .p (.bin .add (.tmp 16) (.const (.int .i64 1)))⟩, ⟨(some 16), none, .p (.mov (.tmp 49))⟩]))))
/-- fairlink graph.validName -/
def cf57 : LC :=
  (.seq (.reg [⟨(some 2), none, .p (.mov (.const (.bool false)))⟩])
  (.seq (.seq (.reg [⟨(some 6), none, .p (.mov (.tmp 0))⟩, ⟨(some 7), none, .p (.len 0 (.tmp 6))⟩, ⟨(some 8), none, .p (.bin .lss (.tmp 7) (.const (.int .i64 1)))⟩, ⟨(some 9), none, .p (.mov (.tmp 8))⟩, ⟨(some 10), (some (9, false)), .p (.mov (.tmp 0))⟩, ⟨(some 11), (some (9, false)), .p (.len 0 (.tmp 10))⟩, ⟨(some 12), (some (9, false)), .p (.bin .gtr (.tmp 11) (.const (.int .i64 20)))⟩, ⟨(some 13), none, .p (.pick (.tmp 9) (.const (.bool true)) (.tmp 12))⟩])
  (.cond (.tmp 13) (.seq (.reg [⟨(some 2), none, .p (.mov (.const (.bool false)))⟩])
  .ret) .skip))
  (.seq (.seq (.reg [⟨(some 14), none, .p (.mov (.tmp 0))⟩, ⟨(some 15), none, .p (.len 0 (.tmp 14))⟩, ⟨(some 16), none, .p (.mov (.const (.int .i64 0)))⟩])
  (.block 0
  (.loop lb57_0)))
  (.seq (.reg [⟨(some 2), none, .p (.mov (.const (.bool true)))⟩])
  .ret))))
def rf57 : List RX := [.tmp 2]
set_option maxRecDepth 100000 in
theorem comp57 : cFn Tryd.prog Tryd.f57 = some (erase cf57, rf57) := by kernel_rfl
/-- fairlink graph.distances 1 -/
def cf58 : LC :=
  (.seq (.reg [⟨(some 5), none, .p (.ld none (.tmp 1))⟩, ⟨(some 6), none, .p (.mov (.tmp 0))⟩, ⟨(some 7), none, .p (.iad 1 (.tmp 5) (.tmp 6))⟩, ⟨(some 8), none, .p (.ld none (.tmp 7))⟩, ⟨(some 9), none, .p (.bin .lss (.tmp 8) (.const (.int .i64 0)))⟩])
  (.cond (.tmp 9) (.seq (.dreg [⟨(some 10), none, .p (.ld none (.tmp 1))⟩, ⟨(some 11), none, .p (.mov (.tmp 0))⟩, ⟨(some 12), none, .p (.ld none (.tmp 1))⟩, ⟨(some 13), none, .p (.ld none (.tmp 2))⟩, ⟨(some 14), none, .p (.iad 1 (.tmp 12) (.tmp 13))⟩, ⟨(some 15), none, .p (.ld none (.tmp 14))⟩, ⟨(some 16), none, .p (.bin .add (.tmp 15) (.const (.int .i64 1)))⟩, ⟨(some 17), none, .p (.iad 1 (.tmp 10) (.tmp 11))⟩] [[⟨none, none, .e (.st 1 (.tmp 17) (.tmp 16))⟩]])
  (.reg [⟨(some 18), none, .p (.ld none (.tmp 3))⟩, ⟨(some 19), none, .p (.mov (.tmp 0))⟩, ⟨(some 20), none, .e (.bsl 1 1 1 [(.int .i64 0)] [(0, 1, (.tmp 19))])⟩, ⟨(some 21), none, .e (.app 1 1 8 (.tmp 18) (.tmp 20))⟩, ⟨none, none, .e (.st 1 (.tmp 3) (.tmp 21))⟩])) .skip))
def rf58 : List RX := []
set_option maxRecDepth 100000 in
theorem comp58 : cFn Tryd.prog Tryd.f58 = some (erase cf58, rf58) := by kernel_rfl
/-- fairlink graph.readNode -/
def cf63 : LC :=
  (.seq (.reg [⟨(some 2), none, .e (.alc [(.string ⟨#[]⟩), (.bool false), (.int .i64 0)])⟩, ⟨(some 3), none, .p (.mov (.const (.bool false)))⟩])
  (.seq (.block 0
  (.seq (.reg [⟨(some 7), none, .p (.mov (.tmp 0))⟩, ⟨(some 8), none, .p (.len 1 (.tmp 7))⟩, ⟨(some 9), none, .p (.bin .eql (.tmp 8) (.const (.int .i64 3)))⟩, ⟨(some 10), none, .p (.mov (.tmp 9))⟩, ⟨(some 11), (some (10, true)), .p (.mov (.tmp 0))⟩, ⟨(some 12), (some (10, true)), .p (.iad 1 (.tmp 11) (.const (.int .i64 0)))⟩, ⟨(some 13), (some (10, true)), .p (.ld none (.tmp 12))⟩, ⟨(some 14), (some (10, true)), .p (.bin .eql (.tmp 13) (.const (.string ⟨#[115, 119, 105, 116, 99, 104]⟩)))⟩, ⟨(some 15), none, .p (.pick (.tmp 10) (.tmp 14) (.const (.bool false)))⟩, ⟨(some 6), none, .p (.mov (.tmp 15))⟩])
  (.cond (.tmp 6) (.seq (.reg [⟨(some 17), none, .p (.mov (.tmp 0))⟩, ⟨(some 18), none, .p (.iad 1 (.tmp 17) (.const (.int .i64 2)))⟩, ⟨(some 19), none, .p (.ld none (.tmp 18))⟩, ⟨(some 20), none, .e (.call 72 [(.tmp 19)])⟩, ⟨(some 16), none, .p (.mov (.tmp 20))⟩, ⟨(some 21), none, .p (.ext (.tmp 16) 0)⟩, ⟨(some 22), none, .p (.ext (.tmp 16) 1)⟩, ⟨(some 4), none, .p (.mov (.tmp 21))⟩, ⟨(some 5), none, .p (.mov (.tmp 22))⟩])
  (.seq (.dreg [⟨(some 23), none, .p (.mov (.tmp 0))⟩, ⟨(some 24), none, .p (.iad 1 (.tmp 23) (.const (.int .i64 1)))⟩, ⟨(some 25), none, .p (.ld none (.tmp 24))⟩, ⟨(some 26), none, .p (.mov (.tmp 4))⟩, ⟨(some 27), none, .p (.bld [(.string ⟨#[]⟩), (.bool false), (.int .i64 0)] [(0, 1, (.tmp 25)), (1, 1, (.const (.bool true))), (2, 1, (.tmp 26))])⟩, ⟨(some 28), none, .p (.mov (.tmp 5))⟩, ⟨(some 29), none, .p (.mov (.tmp 28))⟩, ⟨(some 30), (some (29, true)), .p (.mov (.tmp 0))⟩, ⟨(some 31), (some (29, true)), .p (.iad 1 (.tmp 30) (.const (.int .i64 1)))⟩, ⟨(some 32), (some (29, true)), .p (.ld none (.tmp 31))⟩, ⟨(some 33), (some (29, true)), .e (.call 57 [(.tmp 32)])⟩, ⟨(some 34), none, .p (.pick (.tmp 29) (.tmp 33) (.const (.bool false)))⟩] [[⟨none, none, .e (.st 3 (.tmp 2) (.tmp 27))⟩, ⟨(some 3), none, .p (.mov (.tmp 34))⟩]])
  .ret)) (.seq (.reg [⟨(some 36), none, .p (.mov (.tmp 0))⟩, ⟨(some 37), none, .p (.len 1 (.tmp 36))⟩, ⟨(some 38), none, .p (.bin .eql (.tmp 37) (.const (.int .i64 2)))⟩, ⟨(some 39), none, .p (.mov (.tmp 38))⟩, ⟨(some 40), (some (39, true)), .p (.mov (.tmp 0))⟩, ⟨(some 41), (some (39, true)), .p (.iad 1 (.tmp 40) (.const (.int .i64 0)))⟩, ⟨(some 42), (some (39, true)), .p (.ld none (.tmp 41))⟩, ⟨(some 43), (some (39, true)), .p (.bin .eql (.tmp 42) (.const (.string ⟨#[101, 110, 100]⟩)))⟩, ⟨(some 44), none, .p (.pick (.tmp 39) (.tmp 43) (.const (.bool false)))⟩, ⟨(some 35), none, .p (.mov (.tmp 44))⟩])
  (.cond (.tmp 35) (.seq (.dreg [⟨(some 45), none, .p (.mov (.tmp 0))⟩, ⟨(some 46), none, .p (.iad 1 (.tmp 45) (.const (.int .i64 1)))⟩, ⟨(some 47), none, .p (.ld none (.tmp 46))⟩, ⟨(some 48), none, .p (.bld [(.string ⟨#[]⟩), (.bool false), (.int .i64 0)] [(0, 1, (.tmp 47)), (2, 1, (.const (.int .i64 1)))])⟩, ⟨(some 49), none, .p (.mov (.tmp 0))⟩, ⟨(some 50), none, .p (.iad 1 (.tmp 49) (.const (.int .i64 1)))⟩, ⟨(some 51), none, .p (.ld none (.tmp 50))⟩, ⟨(some 52), none, .e (.call 57 [(.tmp 51)])⟩] [[⟨none, none, .e (.st 3 (.tmp 2) (.tmp 48))⟩, ⟨(some 3), none, .p (.mov (.tmp 52))⟩]])
  .ret) .skip)))))
  (.seq (.reg [⟨(some 53), none, .p (.bld [(.string ⟨#[]⟩), (.bool false), (.int .i64 0)] [])⟩, ⟨none, none, .e (.st 3 (.tmp 2) (.tmp 53))⟩, ⟨(some 3), none, .p (.mov (.const (.bool false)))⟩])
  .ret)))
def rf63 : List RX := [.cell 2 (some 3), .tmp 3]
set_option maxRecDepth 100000 in
theorem comp63 : cFn Tryd.prog Tryd.f63 = some (erase cf63, rf63) := by kernel_rfl
def lb64_0 : LC :=
  (.seq (.reg [⟨(some 38), none, .p (.bin .lss (.tmp 37) (.const (.int .i64 4)))⟩])
  (.seq (.cond (.tmp 38) .skip (.exit 0))
  (.seq (.block 1
  (.seq (.reg [⟨(some 39), none, .p (.mov (.tmp 37))⟩, ⟨(some 40), none, .p (.idxa 4 1 none (.tmp 36) (.tmp 37))⟩, ⟨(some 6), none, .p (.mov (.tmp 39))⟩, ⟨(some 7), none, .p (.mov (.tmp 40))⟩])
  (.seq (.reg [⟨(some 42), none, .p (.mov (.tmp 0))⟩, ⟨(some 43), none, .p (.mov (.tmp 7))⟩, ⟨(some 44), none, .p (.iad 1 (.tmp 42) (.tmp 43))⟩, ⟨(some 45), none, .p (.ld none (.tmp 44))⟩, ⟨(some 46), none, .e (.call 72 [(.tmp 45)])⟩, ⟨(some 41), none, .p (.mov (.tmp 46))⟩, ⟨(some 47), none, .p (.ext (.tmp 41) 0)⟩, ⟨(some 48), none, .p (.ext (.tmp 41) 1)⟩, ⟨(some 8), none, .p (.mov (.tmp 47))⟩, ⟨(some 9), none, .p (.mov (.tmp 48))⟩])
  (.seq (.seq (.reg [⟨(some 49), none, .p (.mov (.tmp 9))⟩, ⟨(some 50), none, .p (.un .not (.tmp 49))⟩])
  (.cond (.tmp 50) (.seq (.reg [⟨(some 51), none, .p (.bld [(.int .i64 0), (.int .i64 0), (.int .i64 0), (.int .i64 0), (.int .i64 0), (.int .i64 0)] [])⟩, ⟨(some 52), none, .p (.bld [(.string ⟨#[]⟩), (.string ⟨#[]⟩)] [])⟩, ⟨none, none, .e (.st 6 (.tmp 2) (.tmp 51))⟩, ⟨none, none, .e (.st 2 (.tmp 3) (.tmp 52))⟩, ⟨(some 4), none, .p (.mov (.const (.bool false)))⟩])
  .ret) .skip))
  (.reg [⟨(some 53), none, .p (.mov (.tmp 6))⟩, ⟨(some 54), none, .p (.mov (.tmp 8))⟩, ⟨(some 55), none, .p (.iada 4 1 (.tmp 5) (.tmp 53))⟩, ⟨none, none, .e (.st 1 (.tmp 55) (.tmp 54))⟩])))))
  (.reg [⟨(some 56), none, .p (.bin .add (.tmp 37) (.const (.int .i64 1)))⟩, ⟨(some 37), none, .p (.mov (.tmp 56))⟩]))))
/-- fairlink graph.readCable -/
def cf64 : LC :=
  (.seq (.reg [⟨(some 2), none, .e (.alc [(.int .i64 0), (.int .i64 0), (.int .i64 0), (.int .i64 0), (.int .i64 0), (.int .i64 0)])⟩, ⟨(some 3), none, .e (.alc [(.string ⟨#[]⟩), (.string ⟨#[]⟩)])⟩, ⟨(some 4), none, .p (.mov (.const (.bool false)))⟩])
  (.seq (.seq (.reg [⟨(some 11), none, .p (.mov (.tmp 0))⟩, ⟨(some 12), none, .p (.len 1 (.tmp 11))⟩, ⟨(some 13), none, .p (.bin .neq (.tmp 12) (.const (.int .i64 7)))⟩, ⟨(some 14), none, .p (.mov (.tmp 13))⟩, ⟨(some 15), (some (14, false)), .p (.mov (.tmp 0))⟩, ⟨(some 16), (some (14, false)), .p (.iad 1 (.tmp 15) (.const (.int .i64 0)))⟩, ⟨(some 17), (some (14, false)), .p (.ld none (.tmp 16))⟩, ⟨(some 18), (some (14, false)), .p (.bin .neq (.tmp 17) (.const (.string ⟨#[99, 97, 98, 108, 101]⟩)))⟩, ⟨(some 19), none, .p (.pick (.tmp 14) (.const (.bool true)) (.tmp 18))⟩, ⟨(some 20), none, .p (.mov (.tmp 19))⟩, ⟨(some 21), (some (20, false)), .p (.mov (.tmp 0))⟩, ⟨(some 22), (some (20, false)), .p (.iad 1 (.tmp 21) (.const (.int .i64 1)))⟩, ⟨(some 23), (some (20, false)), .p (.ld none (.tmp 22))⟩, ⟨(some 24), (some (20, false)), .e (.call 57 [(.tmp 23)])⟩, ⟨(some 25), (some (20, false)), .p (.un .not (.tmp 24))⟩, ⟨(some 26), none, .p (.pick (.tmp 20) (.const (.bool true)) (.tmp 25))⟩, ⟨(some 27), none, .p (.mov (.tmp 26))⟩, ⟨(some 28), (some (27, false)), .p (.mov (.tmp 0))⟩, ⟨(some 29), (some (27, false)), .p (.iad 1 (.tmp 28) (.const (.int .i64 3)))⟩, ⟨(some 30), (some (27, false)), .p (.ld none (.tmp 29))⟩, ⟨(some 31), (some (27, false)), .e (.call 57 [(.tmp 30)])⟩, ⟨(some 32), (some (27, false)), .p (.un .not (.tmp 31))⟩, ⟨(some 33), none, .p (.pick (.tmp 27) (.const (.bool true)) (.tmp 32))⟩])
  (.cond (.tmp 33) (.seq (.reg [⟨(some 34), none, .p (.bld [(.int .i64 0), (.int .i64 0), (.int .i64 0), (.int .i64 0), (.int .i64 0), (.int .i64 0)] [])⟩, ⟨(some 35), none, .p (.bld [(.string ⟨#[]⟩), (.string ⟨#[]⟩)] [])⟩, ⟨none, none, .e (.st 6 (.tmp 2) (.tmp 34))⟩, ⟨none, none, .e (.st 2 (.tmp 3) (.tmp 35))⟩, ⟨(some 4), none, .p (.mov (.const (.bool false)))⟩])
  .ret) .skip))
  (.seq (.reg [⟨(some 5), none, .e (.alc [(.int .i64 0), (.int .i64 0), (.int .i64 0), (.int .i64 0)])⟩])
  (.seq (.seq (.reg [⟨(some 36), none, .p (.bld [(.int .i64 0), (.int .i64 0), (.int .i64 0), (.int .i64 0)] [(0, 1, (.const (.int .i64 2))), (1, 1, (.const (.int .i64 4))), (2, 1, (.const (.int .i64 5))), (3, 1, (.const (.int .i64 6)))])⟩, ⟨(some 37), none, .p (.mov (.const (.int .i64 0)))⟩])
  (.block 0
  (.loop lb64_0)))
  (.seq (.reg [⟨(some 57), none, .p (.iada 4 1 (.tmp 5) (.const (.int .i64 0)))⟩, ⟨(some 58), none, .p (.ld none (.tmp 57))⟩, ⟨(some 59), none, .p (.iada 4 1 (.tmp 5) (.const (.int .i64 1)))⟩, ⟨(some 60), none, .p (.ld none (.tmp 59))⟩, ⟨(some 61), none, .p (.iada 4 1 (.tmp 5) (.const (.int .i64 2)))⟩, ⟨(some 62), none, .p (.ld none (.tmp 61))⟩, ⟨(some 63), none, .p (.iada 4 1 (.tmp 5) (.const (.int .i64 3)))⟩, ⟨(some 64), none, .p (.ld none (.tmp 63))⟩, ⟨(some 65), none, .p (.bld [(.int .i64 0), (.int .i64 0), (.int .i64 0), (.int .i64 0), (.int .i64 0), (.int .i64 0)] [(1, 1, (.tmp 58)), (3, 1, (.tmp 60)), (4, 1, (.tmp 62)), (5, 1, (.tmp 64))])⟩, ⟨(some 10), none, .e (.alc [(.int .i64 0), (.int .i64 0), (.int .i64 0), (.int .i64 0), (.int .i64 0), (.int .i64 0)])⟩, ⟨none, none, .e (.st 6 (.tmp 10) (.tmp 65))⟩])
  (.seq (.dreg [⟨(some 66), none, .p (.ld (some 6) (.tmp 10))⟩, ⟨(some 67), none, .p (.mov (.tmp 0))⟩, ⟨(some 68), none, .p (.iad 1 (.tmp 67) (.const (.int .i64 1)))⟩, ⟨(some 69), none, .p (.ld none (.tmp 68))⟩, ⟨(some 70), none, .p (.mov (.tmp 0))⟩, ⟨(some 71), none, .p (.iad 1 (.tmp 70) (.const (.int .i64 3)))⟩, ⟨(some 72), none, .p (.ld none (.tmp 71))⟩, ⟨(some 73), none, .p (.bld [(.string ⟨#[]⟩), (.string ⟨#[]⟩)] [(0, 1, (.tmp 69)), (1, 1, (.tmp 72))])⟩, ⟨none, none, .e (.st 6 (.tmp 2) (.tmp 66))⟩, ⟨none, none, .e (.st 2 (.tmp 3) (.tmp 73))⟩, ⟨(some 4), none, .p (.mov (.const (.bool true)))⟩] [[]])
  .ret))))))
def rf64 : List RX := [.cell 2 (some 6), .cell 3 (some 2), .tmp 4]
set_option maxRecDepth 100000 in
theorem comp64 : cFn Tryd.prog Tryd.f64 = some (erase cf64, rf64) := by kernel_rfl
def lb72_0 : LC :=
  (.seq (.reg [⟨(some 27), none, .p (.bin .lss (.tmp 26) (.tmp 25))⟩])
  (.seq (.cond (.tmp 27) .skip (.exit 0))
  (.seq (.block 1
  (.seq (.reg [⟨(some 28), none, .p (.mov (.tmp 26))⟩, ⟨(some 5), none, .p (.mov (.tmp 28))⟩])
  (.seq (.seq (.reg [⟨(some 29), none, .p (.mov (.tmp 0))⟩, ⟨(some 30), none, .p (.mov (.tmp 5))⟩, ⟨(some 31), none, .p (.idxs (.tmp 29) (.tmp 30))⟩, ⟨(some 32), none, .p (.bin .lss (.tmp 31) (.const (.int .u8 48)))⟩, ⟨(some 33), none, .p (.mov (.tmp 32))⟩, ⟨(some 34), (some (33, false)), .p (.mov (.tmp 0))⟩, ⟨(some 35), (some (33, false)), .p (.mov (.tmp 5))⟩, ⟨(some 36), (some (33, false)), .p (.idxs (.tmp 34) (.tmp 35))⟩, ⟨(some 37), (some (33, false)), .p (.bin .gtr (.tmp 36) (.const (.int .u8 57)))⟩, ⟨(some 38), none, .p (.pick (.tmp 33) (.const (.bool true)) (.tmp 37))⟩])
  (.cond (.tmp 38) (.seq (.reg [⟨(some 2), none, .p (.mov (.const (.int .i64 0)))⟩, ⟨(some 3), none, .p (.mov (.const (.bool false)))⟩])
  .ret) .skip))
  (.reg [⟨(some 39), none, .p (.mov (.tmp 4))⟩, ⟨(some 40), none, .p (.bin .mul (.const (.int .i64 10)) (.tmp 39))⟩, ⟨(some 41), none, .p (.mov (.tmp 0))⟩, ⟨(some 42), none, .p (.mov (.tmp 5))⟩, ⟨(some 43), none, .p (.idxs (.tmp 41) (.tmp 42))⟩, ⟨(some 44), none, .p (.bin .sub (.tmp 43) (.const (.int .u8 48)))⟩, ⟨(some 45), none, .p (.cvt .i64 (.tmp 44))⟩, ⟨(some 46), none, .p (.bin .add (.tmp 40) (.tmp 45))⟩, ⟨(some 4), none, .p (.mov (.tmp 46))⟩]))))
  (.reg [⟨(some 47), none, .p (.bin .add (.tmp 26) (.const (.int .i64 1)))⟩, ⟨(some 26), none, .p (.mov (.tmp 47))⟩]))))
/-- fairlink graph.readNumber -/
def cf72 : LC :=
  (.seq (.reg [⟨(some 2), none, .p (.mov (.const (.int .i64 0)))⟩, ⟨(some 3), none, .p (.mov (.const (.bool false)))⟩])
  (.seq (.seq (.reg [⟨(some 6), none, .p (.mov (.tmp 0))⟩, ⟨(some 7), none, .p (.len 0 (.tmp 6))⟩, ⟨(some 8), none, .p (.bin .lss (.tmp 7) (.const (.int .i64 1)))⟩, ⟨(some 9), none, .p (.mov (.tmp 8))⟩, ⟨(some 10), (some (9, false)), .p (.mov (.tmp 0))⟩, ⟨(some 11), (some (9, false)), .p (.len 0 (.tmp 10))⟩, ⟨(some 12), (some (9, false)), .p (.bin .gtr (.tmp 11) (.const (.int .i64 9)))⟩, ⟨(some 13), none, .p (.pick (.tmp 9) (.const (.bool true)) (.tmp 12))⟩, ⟨(some 14), none, .p (.mov (.tmp 13))⟩, ⟨(some 15), (some (14, false)), .p (.mov (.tmp 0))⟩, ⟨(some 16), (some (14, false)), .p (.len 0 (.tmp 15))⟩, ⟨(some 17), (some (14, false)), .p (.bin .gtr (.tmp 16) (.const (.int .i64 1)))⟩, ⟨(some 18), (some (14, false)), .p (.mov (.tmp 17))⟩, ⟨(some 19), (some (18, true)), .p (.mov (.tmp 0))⟩, ⟨(some 20), (some (18, true)), .p (.idxs (.tmp 19) (.const (.int .i64 0)))⟩, ⟨(some 21), (some (18, true)), .p (.bin .eql (.tmp 20) (.const (.int .u8 48)))⟩, ⟨(some 22), (some (14, false)), .p (.pick (.tmp 18) (.tmp 21) (.const (.bool false)))⟩, ⟨(some 23), none, .p (.pick (.tmp 14) (.const (.bool true)) (.tmp 22))⟩])
  (.cond (.tmp 23) (.seq (.reg [⟨(some 2), none, .p (.mov (.const (.int .i64 0)))⟩, ⟨(some 3), none, .p (.mov (.const (.bool false)))⟩])
  .ret) .skip))
  (.seq (.reg [⟨(some 4), none, .p (.mov (.const (.int .i64 0)))⟩])
  (.seq (.seq (.reg [⟨(some 24), none, .p (.mov (.tmp 0))⟩, ⟨(some 25), none, .p (.len 0 (.tmp 24))⟩, ⟨(some 26), none, .p (.mov (.const (.int .i64 0)))⟩])
  (.block 0
  (.loop lb72_0)))
  (.seq (.reg [⟨(some 48), none, .p (.mov (.tmp 4))⟩, ⟨(some 2), none, .p (.mov (.tmp 48))⟩, ⟨(some 3), none, .p (.mov (.const (.bool true)))⟩])
  .ret)))))
def rf72 : List RX := [.tmp 2, .tmp 3]
set_option maxRecDepth 100000 in
theorem comp72 : cFn Tryd.prog Tryd.f72 = some (erase cf72, rf72) := by kernel_rfl
end Go.Proofs.YtchpncmmlhfemaaDoor
namespace Go.Proofs.YtchpncmmlhfemaaDoor
/-- gosem.cut.init -/
def cf2 : LC :=
  (.reg [⟨(some 0), none, .e (.ext 1 [])⟩])
def rf2 : List RX := []
set_option maxRecDepth 100000 in
theorem comp2 : cFn Tryd.prog Tryd.f2 = some (erase cf2, rf2) := by kernel_rfl
/-- gosem.cut.vars -/
def cf120 : LC :=
  (.seq (.reg [⟨(some 0), none, .p (.bld [(.int .u8 0), (.int .u8 0), (.int .u8 0), (.int .u8 0), (.int .u8 0), (.int .u8 0), (.int .u8 0), (.int .u8 0), (.int .u8 0), (.int .u8 0), (.int .u8 0), (.int .u8 0), (.int .u8 0), (.int .u8 0), (.int .u8 0), (.int .u8 0), (.int .u8 0), (.int .u8 0), (.int .u8 0), (.int .u8 0), (.int .u8 0), (.int .u8 0), (.int .u8 0), (.int .u8 0), (.int .u8 0), (.int .u8 0), (.int .u8 0), (.int .u8 0), (.int .u8 0), (.int .u8 0), (.int .u8 0), (.int .u8 0)] [(0, 1, (.const (.int .u8 0))), (1, 1, (.const (.int .u8 1))), (2, 1, (.const (.int .u8 28))), (3, 1, (.const (.int .u8 2))), (4, 1, (.const (.int .u8 29))), (5, 1, (.const (.int .u8 14))), (6, 1, (.const (.int .u8 24))), (7, 1, (.const (.int .u8 3))), (8, 1, (.const (.int .u8 30))), (9, 1, (.const (.int .u8 22))), (10, 1, (.const (.int .u8 20))), (11, 1, (.const (.int .u8 15))), (12, 1, (.const (.int .u8 25))), (13, 1, (.const (.int .u8 17))), (14, 1, (.const (.int .u8 4))), (15, 1, (.const (.int .u8 8))), (16, 1, (.const (.int .u8 31))), (17, 1, (.const (.int .u8 27))), (18, 1, (.const (.int .u8 13))), (19, 1, (.const (.int .u8 23))), (20, 1, (.const (.int .u8 21))), (21, 1, (.const (.int .u8 19))), (22, 1, (.const (.int .u8 16))), (23, 1, (.const (.int .u8 7))), (24, 1, (.const (.int .u8 26))), (25, 1, (.const (.int .u8 12))), (26, 1, (.const (.int .u8 18))), (27, 1, (.const (.int .u8 6))), (28, 1, (.const (.int .u8 11))), (29, 1, (.const (.int .u8 5))), (30, 1, (.const (.int .u8 10))), (31, 1, (.const (.int .u8 9)))])⟩, ⟨none, none, .e (.st 32 (.global 4) (.tmp 0))⟩])
  (.seq (.reg [⟨(some 1), none, .p (.bld [(.int .u8 0), (.int .u8 0), (.int .u8 0), (.int .u8 0), (.int .u8 0), (.int .u8 0), (.int .u8 0), (.int .u8 0), (.int .u8 0), (.int .u8 0), (.int .u8 0), (.int .u8 0), (.int .u8 0), (.int .u8 0), (.int .u8 0), (.int .u8 0), (.int .u8 0), (.int .u8 0), (.int .u8 0), (.int .u8 0), (.int .u8 0), (.int .u8 0), (.int .u8 0), (.int .u8 0), (.int .u8 0), (.int .u8 0), (.int .u8 0), (.int .u8 0), (.int .u8 0), (.int .u8 0), (.int .u8 0), (.int .u8 0), (.int .u8 0), (.int .u8 0), (.int .u8 0), (.int .u8 0), (.int .u8 0), (.int .u8 0), (.int .u8 0), (.int .u8 0), (.int .u8 0), (.int .u8 0), (.int .u8 0), (.int .u8 0), (.int .u8 0), (.int .u8 0), (.int .u8 0), (.int .u8 0), (.int .u8 0), (.int .u8 0), (.int .u8 0), (.int .u8 0), (.int .u8 0), (.int .u8 0), (.int .u8 0), (.int .u8 0), (.int .u8 0), (.int .u8 0), (.int .u8 0), (.int .u8 0), (.int .u8 0), (.int .u8 0), (.int .u8 0), (.int .u8 0)] [(0, 1, (.const (.int .u8 0))), (1, 1, (.const (.int .u8 1))), (2, 1, (.const (.int .u8 56))), (3, 1, (.const (.int .u8 2))), (4, 1, (.const (.int .u8 57))), (5, 1, (.const (.int .u8 49))), (6, 1, (.const (.int .u8 28))), (7, 1, (.const (.int .u8 3))), (8, 1, (.const (.int .u8 61))), (9, 1, (.const (.int .u8 58))), (10, 1, (.const (.int .u8 42))), (11, 1, (.const (.int .u8 50))), (12, 1, (.const (.int .u8 38))), (13, 1, (.const (.int .u8 29))), (14, 1, (.const (.int .u8 17))), (15, 1, (.const (.int .u8 4))), (16, 1, (.const (.int .u8 62))), (17, 1, (.const (.int .u8 47))), (18, 1, (.const (.int .u8 59))), (19, 1, (.const (.int .u8 36))), (20, 1, (.const (.int .u8 45))), (21, 1, (.const (.int .u8 43))), (22, 1, (.const (.int .u8 51))), (23, 1, (.const (.int .u8 22))), (24, 1, (.const (.int .u8 53))), (25, 1, (.const (.int .u8 39))), (26, 1, (.const (.int .u8 33))), (27, 1, (.const (.int .u8 30))), (28, 1, (.const (.int .u8 24))), (29, 1, (.const (.int .u8 18))), (30, 1, (.const (.int .u8 12))), (31, 1, (.const (.int .u8 5))), (32, 1, (.const (.int .u8 63))), (33, 1, (.const (.int .u8 55))), (34, 1, (.const (.int .u8 48))), (35, 1, (.const (.int .u8 27))), (36, 1, (.const (.int .u8 60))), (37, 1, (.const (.int .u8 41))), (38, 1, (.const (.int .u8 37))), (39, 1, (.const (.int .u8 16))), (40, 1, (.const (.int .u8 46))), (41, 1, (.const (.int .u8 35))), (42, 1, (.const (.int .u8 44))), (43, 1, (.const (.int .u8 21))), (44, 1, (.const (.int .u8 52))), (45, 1, (.const (.int .u8 32))), (46, 1, (.const (.int .u8 23))), (47, 1, (.const (.int .u8 11))), (48, 1, (.const (.int .u8 54))), (49, 1, (.const (.int .u8 26))), (50, 1, (.const (.int .u8 40))), (51, 1, (.const (.int .u8 15))), (52, 1, (.const (.int .u8 34))), (53, 1, (.const (.int .u8 20))), (54, 1, (.const (.int .u8 31))), (55, 1, (.const (.int .u8 10))), (56, 1, (.const (.int .u8 25))), (57, 1, (.const (.int .u8 14))), (58, 1, (.const (.int .u8 19))), (59, 1, (.const (.int .u8 9))), (60, 1, (.const (.int .u8 13))), (61, 1, (.const (.int .u8 8))), (62, 1, (.const (.int .u8 7))), (63, 1, (.const (.int .u8 6)))])⟩, ⟨none, none, .e (.st 64 (.global 5) (.tmp 1))⟩])
  (.seq (.reg [⟨(some 2), none, .p (.bld [(.int .u64 0), (.int .u64 0), (.int .u64 0), (.int .u64 0), (.int .u64 0), (.int .u64 0), (.int .u64 0), (.int .u64 0), (.int .u64 0), (.int .u64 0), (.int .u64 0), (.int .u64 0), (.int .u64 0), (.int .u64 0), (.int .u64 0), (.int .u64 0), (.int .u64 0), (.int .u64 0), (.int .u64 0), (.int .u64 0)] [(0, 1, (.const (.int .u64 1))), (1, 1, (.const (.int .u64 10))), (2, 1, (.const (.int .u64 100))), (3, 1, (.const (.int .u64 1000))), (4, 1, (.const (.int .u64 10000))), (5, 1, (.const (.int .u64 100000))), (6, 1, (.const (.int .u64 1000000))), (7, 1, (.const (.int .u64 10000000))), (8, 1, (.const (.int .u64 100000000))), (9, 1, (.const (.int .u64 1000000000))), (10, 1, (.const (.int .u64 10000000000))), (11, 1, (.const (.int .u64 100000000000))), (12, 1, (.const (.int .u64 1000000000000))), (13, 1, (.const (.int .u64 10000000000000))), (14, 1, (.const (.int .u64 100000000000000))), (15, 1, (.const (.int .u64 1000000000000000))), (16, 1, (.const (.int .u64 10000000000000000))), (17, 1, (.const (.int .u64 100000000000000000))), (18, 1, (.const (.int .u64 1000000000000000000))), (19, 1, (.const (.int .u64 10000000000000000000)))])⟩, ⟨none, none, .e (.st 20 (.global 1) (.tmp 2))⟩])
  (.reg [⟨(some 3), none, .p (.bld [(.int .u8 0), (.int .u8 0)] [(0, 1, (.const (.int .u8 128))), (1, 1, (.const (.int .u8 191)))])⟩, ⟨(some 4), none, .p (.bld [(.int .u8 0), (.int .u8 0)] [(0, 1, (.const (.int .u8 160))), (1, 1, (.const (.int .u8 191)))])⟩, ⟨(some 5), none, .p (.bld [(.int .u8 0), (.int .u8 0)] [(0, 1, (.const (.int .u8 128))), (1, 1, (.const (.int .u8 159)))])⟩, ⟨(some 6), none, .p (.bld [(.int .u8 0), (.int .u8 0)] [(0, 1, (.const (.int .u8 144))), (1, 1, (.const (.int .u8 191)))])⟩, ⟨(some 7), none, .p (.bld [(.int .u8 0), (.int .u8 0)] [(0, 1, (.const (.int .u8 128))), (1, 1, (.const (.int .u8 143)))])⟩, ⟨(some 8), none, .p (.bld [(.int .u8 0), (.int .u8 0), (.int .u8 0), (.int .u8 0), (.int .u8 0), (.int .u8 0), (.int .u8 0), (.int .u8 0), (.int .u8 0), (.int .u8 0), (.int .u8 0), (.int .u8 0), (.int .u8 0), (.int .u8 0), (.int .u8 0), (.int .u8 0), (.int .u8 0), (.int .u8 0), (.int .u8 0), (.int .u8 0), (.int .u8 0), (.int .u8 0), (.int .u8 0), (.int .u8 0), (.int .u8 0), (.int .u8 0), (.int .u8 0), (.int .u8 0), (.int .u8 0), (.int .u8 0), (.int .u8 0), (.int .u8 0)] [(0, 2, (.tmp 3)), (2, 2, (.tmp 4)), (4, 2, (.tmp 5)), (6, 2, (.tmp 6)), (8, 2, (.tmp 7))])⟩, ⟨none, none, .e (.st 32 (.global 3) (.tmp 8))⟩]))))
def rf120 : List RX := []
set_option maxRecDepth 100000 in
theorem comp120 : cFn Tryd.prog Tryd.f120 = some (erase cf120, rf120) := by kernel_rfl
end Go.Proofs.YtchpncmmlhfemaaDoor
namespace Go.Proofs.YtchpncmmlhfemaaDoor
/-- internal bytealg.Cutover -/
def cf85 : LC :=
  (.seq (.reg [⟨(some 2), none, .p (.mov (.const (.int .i64 0)))⟩])
  (.seq (.reg [⟨(some 3), none, .p (.mov (.tmp 0))⟩, ⟨(some 4), none, .p (.bin .add (.tmp 3) (.const (.int .i64 16)))⟩, ⟨(some 5), none, .p (.bin .quo (.tmp 4) (.const (.int .i64 8)))⟩, ⟨(some 2), none, .p (.mov (.tmp 5))⟩])
  .ret))
def rf85 : List RX := [.tmp 2]
set_option maxRecDepth 100000 in
theorem comp85 : cFn Tryd.prog Tryd.f85 = some (erase cf85, rf85) := by kernel_rfl
def lb86_0 : LC :=
  (.seq (.seq (.reg [⟨(some 41), none, .p (.mov (.tmp 10))⟩, ⟨(some 42), none, .p (.mov (.tmp 0))⟩, ⟨(some 43), none, .p (.len 0 (.tmp 42))⟩, ⟨(some 44), none, .p (.bin .lss (.tmp 41) (.tmp 43))⟩])
  (.cond (.tmp 44) .skip (.exit 2)))
  (.block 3
  (.seq (.reg [⟨(some 45), none, .p (.mov (.tmp 8))⟩, ⟨(some 46), none, .p (.bin .mul (.tmp 45) (.const (.int .u32 16777619)))⟩, ⟨(some 8), none, .p (.mov (.tmp 46))⟩])
  (.seq (.reg [⟨(some 47), none, .p (.mov (.tmp 8))⟩, ⟨(some 48), none, .p (.mov (.tmp 0))⟩, ⟨(some 49), none, .p (.mov (.tmp 10))⟩, ⟨(some 50), none, .p (.idxs (.tmp 48) (.tmp 49))⟩, ⟨(some 51), none, .p (.cvt .u32 (.tmp 50))⟩, ⟨(some 52), none, .p (.bin .add (.tmp 47) (.tmp 51))⟩, ⟨(some 8), none, .p (.mov (.tmp 52))⟩])
  (.seq (.reg [⟨(some 53), none, .p (.mov (.tmp 8))⟩, ⟨(some 54), none, .p (.mov (.tmp 6))⟩, ⟨(some 55), none, .p (.mov (.tmp 0))⟩, ⟨(some 56), none, .p (.mov (.tmp 10))⟩, ⟨(some 57), none, .p (.mov (.tmp 7))⟩, ⟨(some 58), none, .p (.bin .sub (.tmp 56) (.tmp 57))⟩, ⟨(some 59), none, .p (.idxs (.tmp 55) (.tmp 58))⟩, ⟨(some 60), none, .p (.cvt .u32 (.tmp 59))⟩, ⟨(some 61), none, .p (.bin .mul (.tmp 54) (.tmp 60))⟩, ⟨(some 62), none, .p (.bin .sub (.tmp 53) (.tmp 61))⟩, ⟨(some 8), none, .p (.mov (.tmp 62))⟩])
  (.seq (.reg [⟨(some 63), none, .p (.mov (.tmp 10))⟩, ⟨(some 64), none, .p (.bin .add (.tmp 63) (.const (.int .i64 1)))⟩, ⟨(some 10), none, .p (.mov (.tmp 64))⟩])
  (.seq (.reg [⟨(some 65), none, .p (.mov (.tmp 8))⟩, ⟨(some 66), none, .p (.mov (.tmp 5))⟩, ⟨(some 67), none, .p (.bin .eql (.tmp 65) (.tmp 66))⟩, ⟨(some 68), none, .p (.mov (.tmp 67))⟩, ⟨(some 69), (some (68, true)), .p (.mov (.tmp 0))⟩, ⟨(some 70), (some (68, true)), .p (.mov (.tmp 10))⟩, ⟨(some 71), (some (68, true)), .p (.mov (.tmp 7))⟩, ⟨(some 72), (some (68, true)), .p (.bin .sub (.tmp 70) (.tmp 71))⟩, ⟨(some 73), (some (68, true)), .p (.mov (.tmp 10))⟩, ⟨(some 74), (some (68, true)), .p (.slcs (.tmp 69) (some (.tmp 72)) (some (.tmp 73)))⟩, ⟨(some 75), (some (68, true)), .p (.mov (.tmp 1))⟩, ⟨(some 76), (some (68, true)), .p (.bin .eql (.tmp 74) (.tmp 75))⟩, ⟨(some 77), none, .p (.pick (.tmp 68) (.tmp 76) (.const (.bool false)))⟩])
  (.cond (.tmp 77) (.seq (.reg [⟨(some 78), none, .p (.mov (.tmp 10))⟩, ⟨(some 79), none, .p (.mov (.tmp 7))⟩, ⟨(some 80), none, .p (.bin .sub (.tmp 78) (.tmp 79))⟩, ⟨(some 4), none, .p (.mov (.tmp 80))⟩])
  .ret) .skip))))))))
def lb86_1 : LC :=
  (.seq (.seq (.reg [⟨(some 18), none, .p (.mov (.tmp 9))⟩, ⟨(some 19), none, .p (.mov (.tmp 7))⟩, ⟨(some 20), none, .p (.bin .lss (.tmp 18) (.tmp 19))⟩])
  (.cond (.tmp 20) .skip (.exit 0)))
  (.seq (.block 1
  (.reg [⟨(some 23), none, .p (.mov (.tmp 8))⟩, ⟨(some 24), none, .p (.bin .mul (.tmp 23) (.const (.int .u32 16777619)))⟩, ⟨(some 25), none, .p (.mov (.tmp 0))⟩, ⟨(some 26), none, .p (.mov (.tmp 9))⟩, ⟨(some 27), none, .p (.idxs (.tmp 25) (.tmp 26))⟩, ⟨(some 28), none, .p (.cvt .u32 (.tmp 27))⟩, ⟨(some 29), none, .p (.bin .add (.tmp 24) (.tmp 28))⟩, ⟨(some 8), none, .p (.mov (.tmp 29))⟩]))
  (.reg [⟨(some 21), none, .p (.mov (.tmp 9))⟩, ⟨(some 22), none, .p (.bin .add (.tmp 21) (.const (.int .i64 1)))⟩, ⟨(some 9), none, .p (.mov (.tmp 22))⟩])))
/-- internal bytealg.IndexRabinKarp string  -/
def cf86 : LC :=
  (.seq (.reg [⟨(some 4), none, .p (.mov (.const (.int .i64 0)))⟩])
  (.seq (.reg [⟨(some 12), none, .p (.mov (.tmp 1))⟩, ⟨(some 13), none, .e (.call 93 [(.tmp 12)])⟩, ⟨(some 11), none, .p (.mov (.tmp 13))⟩, ⟨(some 14), none, .p (.ext (.tmp 11) 0)⟩, ⟨(some 15), none, .p (.ext (.tmp 11) 1)⟩, ⟨(some 5), none, .p (.mov (.tmp 14))⟩, ⟨(some 6), none, .p (.mov (.tmp 15))⟩])
  (.seq (.reg [⟨(some 16), none, .p (.mov (.tmp 1))⟩, ⟨(some 17), none, .p (.len 0 (.tmp 16))⟩, ⟨(some 7), none, .p (.mov (.tmp 17))⟩])
  (.seq (.reg [⟨(some 8), none, .p (.mov (.const (.int .u32 0)))⟩])
  (.seq (.seq (.reg [⟨(some 9), none, .p (.mov (.const (.int .i64 0)))⟩])
  (.block 0
  (.loop lb86_1)))
  (.seq (.seq (.reg [⟨(some 30), none, .p (.mov (.tmp 8))⟩, ⟨(some 31), none, .p (.mov (.tmp 5))⟩, ⟨(some 32), none, .p (.bin .eql (.tmp 30) (.tmp 31))⟩, ⟨(some 33), none, .p (.mov (.tmp 32))⟩, ⟨(some 34), (some (33, true)), .p (.mov (.tmp 0))⟩, ⟨(some 35), (some (33, true)), .p (.mov (.tmp 7))⟩, ⟨(some 36), (some (33, true)), .p (.slcs (.tmp 34) none (some (.tmp 35)))⟩, ⟨(some 37), (some (33, true)), .p (.mov (.tmp 1))⟩, ⟨(some 38), (some (33, true)), .p (.bin .eql (.tmp 36) (.tmp 37))⟩, ⟨(some 39), none, .p (.pick (.tmp 33) (.tmp 38) (.const (.bool false)))⟩])
  (.cond (.tmp 39) (.seq (.reg [⟨(some 4), none, .p (.mov (.const (.int .i64 0)))⟩])
  .ret) .skip))
  (.seq (.seq (.reg [⟨(some 40), none, .p (.mov (.tmp 7))⟩, ⟨(some 10), none, .p (.mov (.tmp 40))⟩])
  (.block 2
  (.loop lb86_0)))
  (.seq (.reg [⟨(some 4), none, .p (.mov (.const (.int .i64 (-1))))⟩])
  .ret))))))))
def rf86 : List RX := [.tmp 4]
set_option maxRecDepth 100000 in
theorem comp86 : cFn Tryd.prog Tryd.f86 = some (erase cf86, rf86) := by kernel_rfl
def lb93_0 : LC :=
  (.seq (.seq (.reg [⟨(some 24), none, .p (.mov (.tmp 8))⟩, ⟨(some 25), none, .p (.bin .gtr (.tmp 24) (.const (.int .i64 0)))⟩])
  (.cond (.tmp 25) .skip (.exit 2)))
  (.seq (.block 3
  (.seq (.seq (.reg [⟨(some 28), none, .p (.mov (.tmp 8))⟩, ⟨(some 29), none, .p (.bin .and (.tmp 28) (.const (.int .i64 1)))⟩, ⟨(some 30), none, .p (.bin .neq (.tmp 29) (.const (.int .i64 0)))⟩])
  (.cond (.tmp 30) (.reg [⟨(some 31), none, .p (.mov (.tmp 6))⟩, ⟨(some 32), none, .p (.mov (.tmp 7))⟩, ⟨(some 33), none, .p (.bin .mul (.tmp 31) (.tmp 32))⟩, ⟨(some 6), none, .p (.mov (.tmp 33))⟩]) .skip))
  (.reg [⟨(some 34), none, .p (.mov (.tmp 7))⟩, ⟨(some 35), none, .p (.mov (.tmp 7))⟩, ⟨(some 36), none, .p (.bin .mul (.tmp 34) (.tmp 35))⟩, ⟨(some 7), none, .p (.mov (.tmp 36))⟩])))
  (.reg [⟨(some 26), none, .p (.mov (.tmp 8))⟩, ⟨(some 27), none, .p (.bin .shr (.tmp 26) (.const (.int .u64 1)))⟩, ⟨(some 8), none, .p (.mov (.tmp 27))⟩])))
def lb93_1 : LC :=
  (.seq (.seq (.reg [⟨(some 9), none, .p (.mov (.tmp 5))⟩, ⟨(some 10), none, .p (.mov (.tmp 0))⟩, ⟨(some 11), none, .p (.len 0 (.tmp 10))⟩, ⟨(some 12), none, .p (.bin .lss (.tmp 9) (.tmp 11))⟩])
  (.cond (.tmp 12) .skip (.exit 0)))
  (.seq (.block 1
  (.reg [⟨(some 15), none, .p (.mov (.tmp 4))⟩, ⟨(some 16), none, .p (.bin .mul (.tmp 15) (.const (.int .u32 16777619)))⟩, ⟨(some 17), none, .p (.mov (.tmp 0))⟩, ⟨(some 18), none, .p (.mov (.tmp 5))⟩, ⟨(some 19), none, .p (.idxs (.tmp 17) (.tmp 18))⟩, ⟨(some 20), none, .p (.cvt .u32 (.tmp 19))⟩, ⟨(some 21), none, .p (.bin .add (.tmp 16) (.tmp 20))⟩, ⟨(some 4), none, .p (.mov (.tmp 21))⟩]))
  (.reg [⟨(some 13), none, .p (.mov (.tmp 5))⟩, ⟨(some 14), none, .p (.bin .add (.tmp 13) (.const (.int .i64 1)))⟩, ⟨(some 5), none, .p (.mov (.tmp 14))⟩])))
/-- internal bytealg.hashStr string  -/
def cf93 : LC :=
  (.seq (.reg [⟨(some 2), none, .p (.mov (.const (.int .u32 0)))⟩, ⟨(some 3), none, .p (.mov (.const (.int .u32 0)))⟩])
  (.seq (.reg [⟨(some 4), none, .p (.mov (.const (.int .u32 0)))⟩])
  (.seq (.seq (.reg [⟨(some 5), none, .p (.mov (.const (.int .i64 0)))⟩])
  (.block 0
  (.loop lb93_1)))
  (.seq (.reg [⟨(some 6), none, .p (.mov (.const (.int .u32 1)))⟩, ⟨(some 7), none, .p (.mov (.const (.int .u32 16777619)))⟩])
  (.seq (.seq (.reg [⟨(some 22), none, .p (.mov (.tmp 0))⟩, ⟨(some 23), none, .p (.len 0 (.tmp 22))⟩, ⟨(some 8), none, .p (.mov (.tmp 23))⟩])
  (.block 2
  (.loop lb93_0)))
  (.seq (.reg [⟨(some 37), none, .p (.mov (.tmp 4))⟩, ⟨(some 38), none, .p (.mov (.tmp 6))⟩, ⟨(some 2), none, .p (.mov (.tmp 37))⟩, ⟨(some 3), none, .p (.mov (.tmp 38))⟩])
  .ret))))))
def rf93 : List RX := [.tmp 2, .tmp 3]
set_option maxRecDepth 100000 in
theorem comp93 : cFn Tryd.prog Tryd.f93 = some (erase cf93, rf93) := by kernel_rfl
end Go.Proofs.YtchpncmmlhfemaaDoor
namespace Go.Proofs.YtchpncmmlhfemaaDoor
/-- strconv.Itoa -/
def cf48 : LC :=
  (.seq (.reg [⟨(some 2), none, .p (.mov (.const (.string ⟨#[]⟩)))⟩])
  (.seq (.reg [⟨(some 3), none, .p (.mov (.tmp 0))⟩, ⟨(some 4), none, .e (.call 60 [(.tmp 3)])⟩, ⟨(some 2), none, .p (.mov (.tmp 4))⟩])
  .ret))
def rf48 : List RX := [.tmp 2]
set_option maxRecDepth 100000 in
theorem comp48 : cFn Tryd.prog Tryd.f48 = some (erase cf48, rf48) := by kernel_rfl
end Go.Proofs.YtchpncmmlhfemaaDoor
namespace Go.Proofs.YtchpncmmlhfemaaDoor
/-- internal stringslite.HasSuffix -/
def cf56 : LC :=
  (.seq (.reg [⟨(some 4), none, .p (.mov (.const (.bool false)))⟩])
  (.seq (.reg [⟨(some 5), none, .p (.mov (.tmp 0))⟩, ⟨(some 6), none, .p (.len 0 (.tmp 5))⟩, ⟨(some 7), none, .p (.mov (.tmp 1))⟩, ⟨(some 8), none, .p (.len 0 (.tmp 7))⟩, ⟨(some 9), none, .p (.bin .geq (.tmp 6) (.tmp 8))⟩, ⟨(some 10), none, .p (.mov (.tmp 9))⟩, ⟨(some 11), (some (10, true)), .p (.mov (.tmp 0))⟩, ⟨(some 12), (some (10, true)), .p (.mov (.tmp 0))⟩, ⟨(some 13), (some (10, true)), .p (.len 0 (.tmp 12))⟩, ⟨(some 14), (some (10, true)), .p (.mov (.tmp 1))⟩, ⟨(some 15), (some (10, true)), .p (.len 0 (.tmp 14))⟩, ⟨(some 16), (some (10, true)), .p (.bin .sub (.tmp 13) (.tmp 15))⟩, ⟨(some 17), (some (10, true)), .p (.slcs (.tmp 11) (some (.tmp 16)) none)⟩, ⟨(some 18), (some (10, true)), .p (.mov (.tmp 1))⟩, ⟨(some 19), (some (10, true)), .p (.bin .eql (.tmp 17) (.tmp 18))⟩, ⟨(some 20), none, .p (.pick (.tmp 10) (.tmp 19) (.const (.bool false)))⟩, ⟨(some 4), none, .p (.mov (.tmp 20))⟩])
  .ret))
def rf56 : List RX := [.tmp 4]
set_option maxRecDepth 100000 in
theorem comp56 : cFn Tryd.prog Tryd.f56 = some (erase cf56, rf56) := by kernel_rfl
/-- internal stringslite.Cut -/
def cf71 : LC :=
  (.seq (.reg [⟨(some 4), none, .p (.mov (.const (.string ⟨#[]⟩)))⟩, ⟨(some 5), none, .p (.mov (.const (.string ⟨#[]⟩)))⟩, ⟨(some 6), none, .p (.mov (.const (.bool false)))⟩])
  (.seq (.seq (.reg [⟨(some 8), none, .p (.mov (.tmp 0))⟩, ⟨(some 9), none, .p (.mov (.tmp 1))⟩, ⟨(some 10), none, .e (.call 76 [(.tmp 8), (.tmp 9)])⟩, ⟨(some 7), none, .p (.mov (.tmp 10))⟩])
  (.seq (.reg [⟨(some 11), none, .p (.mov (.tmp 7))⟩, ⟨(some 12), none, .p (.bin .geq (.tmp 11) (.const (.int .i64 0)))⟩])
  (.cond (.tmp 12) (.seq (.dreg [⟨(some 13), none, .p (.mov (.tmp 0))⟩, ⟨(some 14), none, .p (.mov (.tmp 7))⟩, ⟨(some 15), none, .p (.slcs (.tmp 13) none (some (.tmp 14)))⟩, ⟨(some 16), none, .p (.mov (.tmp 0))⟩, ⟨(some 17), none, .p (.mov (.tmp 7))⟩, ⟨(some 18), none, .p (.mov (.tmp 1))⟩, ⟨(some 19), none, .p (.len 0 (.tmp 18))⟩, ⟨(some 20), none, .p (.bin .add (.tmp 17) (.tmp 19))⟩, ⟨(some 21), none, .p (.slcs (.tmp 16) (some (.tmp 20)) none)⟩, ⟨(some 4), none, .p (.mov (.tmp 15))⟩, ⟨(some 5), none, .p (.mov (.tmp 21))⟩] [[⟨(some 6), none, .p (.mov (.const (.bool true)))⟩]])
  .ret) .skip)))
  (.seq (.reg [⟨(some 22), none, .p (.mov (.tmp 0))⟩, ⟨(some 4), none, .p (.mov (.tmp 22))⟩, ⟨(some 5), none, .p (.mov (.const (.string ⟨#[]⟩)))⟩, ⟨(some 6), none, .p (.mov (.const (.bool false)))⟩])
  .ret)))
def rf71 : List RX := [.tmp 4, .tmp 5, .tmp 6]
set_option maxRecDepth 100000 in
theorem comp71 : cFn Tryd.prog Tryd.f71 = some (erase cf71, rf71) := by kernel_rfl
def lb76_0 : LC :=
  (.seq (.seq (.reg [⟨(some 57), none, .p (.mov (.tmp 8))⟩, ⟨(some 58), none, .p (.mov (.tmp 9))⟩, ⟨(some 59), none, .p (.bin .lss (.tmp 57) (.tmp 58))⟩])
  (.cond (.tmp 59) .skip (.exit 1)))
  (.block 2
  (.seq (.seq (.reg [⟨(some 60), none, .p (.mov (.tmp 0))⟩, ⟨(some 61), none, .p (.mov (.tmp 8))⟩, ⟨(some 62), none, .p (.idxs (.tmp 60) (.tmp 61))⟩, ⟨(some 63), none, .p (.mov (.tmp 6))⟩, ⟨(some 64), none, .p (.bin .neq (.tmp 62) (.tmp 63))⟩])
  (.cond (.tmp 64) (.seq (.reg [⟨(some 65), none, .p (.mov (.tmp 0))⟩, ⟨(some 66), none, .p (.mov (.tmp 8))⟩, ⟨(some 67), none, .p (.bin .add (.tmp 66) (.const (.int .i64 1)))⟩, ⟨(some 68), none, .p (.mov (.tmp 9))⟩, ⟨(some 69), none, .p (.slcs (.tmp 65) (some (.tmp 67)) (some (.tmp 68)))⟩, ⟨(some 70), none, .p (.mov (.tmp 6))⟩, ⟨(some 71), none, .e (.call 83 [(.tmp 69), (.tmp 70)])⟩, ⟨(some 11), none, .p (.mov (.tmp 71))⟩])
  (.seq (.seq (.reg [⟨(some 72), none, .p (.mov (.tmp 11))⟩, ⟨(some 73), none, .p (.bin .lss (.tmp 72) (.const (.int .i64 0)))⟩])
  (.cond (.tmp 73) (.seq (.reg [⟨(some 4), none, .p (.mov (.const (.int .i64 (-1))))⟩])
  .ret) .skip))
  (.reg [⟨(some 74), none, .p (.mov (.tmp 8))⟩, ⟨(some 75), none, .p (.mov (.tmp 11))⟩, ⟨(some 76), none, .p (.bin .add (.tmp 75) (.const (.int .i64 1)))⟩, ⟨(some 77), none, .p (.bin .add (.tmp 74) (.tmp 76))⟩, ⟨(some 8), none, .p (.mov (.tmp 77))⟩]))) .skip))
  (.seq (.seq (.reg [⟨(some 78), none, .p (.mov (.tmp 0))⟩, ⟨(some 79), none, .p (.mov (.tmp 8))⟩, ⟨(some 80), none, .p (.bin .add (.tmp 79) (.const (.int .i64 1)))⟩, ⟨(some 81), none, .p (.idxs (.tmp 78) (.tmp 80))⟩, ⟨(some 82), none, .p (.mov (.tmp 7))⟩, ⟨(some 83), none, .p (.bin .eql (.tmp 81) (.tmp 82))⟩, ⟨(some 84), none, .p (.mov (.tmp 83))⟩, ⟨(some 85), (some (84, true)), .p (.mov (.tmp 0))⟩, ⟨(some 86), (some (84, true)), .p (.mov (.tmp 8))⟩, ⟨(some 87), (some (84, true)), .p (.mov (.tmp 8))⟩, ⟨(some 88), (some (84, true)), .p (.mov (.tmp 5))⟩, ⟨(some 89), (some (84, true)), .p (.bin .add (.tmp 87) (.tmp 88))⟩, ⟨(some 90), (some (84, true)), .p (.slcs (.tmp 85) (some (.tmp 86)) (some (.tmp 89)))⟩, ⟨(some 91), (some (84, true)), .p (.mov (.tmp 1))⟩, ⟨(some 92), (some (84, true)), .p (.bin .eql (.tmp 90) (.tmp 91))⟩, ⟨(some 93), none, .p (.pick (.tmp 84) (.tmp 92) (.const (.bool false)))⟩])
  (.cond (.tmp 93) (.seq (.reg [⟨(some 94), none, .p (.mov (.tmp 8))⟩, ⟨(some 4), none, .p (.mov (.tmp 94))⟩])
  .ret) .skip))
  (.seq (.reg [⟨(some 95), none, .p (.mov (.tmp 8))⟩, ⟨(some 96), none, .p (.bin .add (.tmp 95) (.const (.int .i64 1)))⟩, ⟨(some 8), none, .p (.mov (.tmp 96))⟩])
  (.seq (.reg [⟨(some 97), none, .p (.mov (.tmp 10))⟩, ⟨(some 98), none, .p (.bin .add (.tmp 97) (.const (.int .i64 1)))⟩, ⟨(some 10), none, .p (.mov (.tmp 98))⟩])
  (.seq (.reg [⟨(some 99), none, .p (.mov (.tmp 5))⟩, ⟨(some 100), none, .p (.ld none (.global 0))⟩, ⟨(some 101), none, .p (.bin .leq (.tmp 99) (.tmp 100))⟩, ⟨(some 102), none, .p (.mov (.tmp 101))⟩, ⟨(some 103), (some (102, true)), .p (.mov (.tmp 10))⟩, ⟨(some 104), (some (102, true)), .p (.mov (.tmp 8))⟩, ⟨(some 105), (some (102, true)), .e (.call 85 [(.tmp 104)])⟩, ⟨(some 106), (some (102, true)), .p (.bin .gtr (.tmp 103) (.tmp 105))⟩, ⟨(some 107), none, .p (.pick (.tmp 102) (.tmp 106) (.const (.bool false)))⟩])
  (.cond (.tmp 107) (.seq (.reg [⟨(some 108), none, .p (.mov (.tmp 0))⟩, ⟨(some 109), none, .p (.mov (.tmp 8))⟩, ⟨(some 110), none, .p (.slcs (.tmp 108) (some (.tmp 109)) none)⟩, ⟨(some 111), none, .p (.mov (.tmp 1))⟩, ⟨(some 112), none, .e (.ext 84 [(.tmp 110), (.tmp 111)])⟩, ⟨(some 12), none, .p (.mov (.tmp 112))⟩])
  (.seq (.seq (.reg [⟨(some 113), none, .p (.mov (.tmp 12))⟩, ⟨(some 114), none, .p (.bin .geq (.tmp 113) (.const (.int .i64 0)))⟩])
  (.cond (.tmp 114) (.seq (.reg [⟨(some 115), none, .p (.mov (.tmp 12))⟩, ⟨(some 116), none, .p (.mov (.tmp 8))⟩, ⟨(some 117), none, .p (.bin .add (.tmp 115) (.tmp 116))⟩, ⟨(some 4), none, .p (.mov (.tmp 117))⟩])
  .ret) .skip))
  (.seq (.reg [⟨(some 4), none, .p (.mov (.const (.int .i64 (-1))))⟩])
  .ret))) (.seq (.reg [⟨(some 118), none, .p (.mov (.tmp 5))⟩, ⟨(some 119), none, .p (.ld none (.global 0))⟩, ⟨(some 120), none, .p (.bin .gtr (.tmp 118) (.tmp 119))⟩, ⟨(some 121), none, .p (.mov (.tmp 120))⟩, ⟨(some 122), (some (121, true)), .p (.mov (.tmp 10))⟩, ⟨(some 123), (some (121, true)), .p (.mov (.tmp 8))⟩, ⟨(some 124), (some (121, true)), .p (.bin .shr (.tmp 123) (.const (.int .u64 4)))⟩, ⟨(some 125), (some (121, true)), .p (.bin .add (.const (.int .i64 4)) (.tmp 124))⟩, ⟨(some 126), (some (121, true)), .p (.bin .geq (.tmp 122) (.tmp 125))⟩, ⟨(some 127), none, .p (.pick (.tmp 121) (.tmp 126) (.const (.bool false)))⟩, ⟨(some 128), none, .p (.mov (.tmp 127))⟩, ⟨(some 129), (some (128, true)), .p (.mov (.tmp 8))⟩, ⟨(some 130), (some (128, true)), .p (.mov (.tmp 9))⟩, ⟨(some 131), (some (128, true)), .p (.bin .lss (.tmp 129) (.tmp 130))⟩, ⟨(some 132), none, .p (.pick (.tmp 128) (.tmp 131) (.const (.bool false)))⟩])
  (.cond (.tmp 132) (.seq (.reg [⟨(some 133), none, .p (.mov (.tmp 0))⟩, ⟨(some 134), none, .p (.mov (.tmp 8))⟩, ⟨(some 135), none, .p (.slcs (.tmp 133) (some (.tmp 134)) none)⟩, ⟨(some 136), none, .p (.mov (.tmp 1))⟩, ⟨(some 137), none, .e (.call 86 [(.tmp 135), (.tmp 136)])⟩, ⟨(some 13), none, .p (.mov (.tmp 137))⟩])
  (.seq (.seq (.reg [⟨(some 138), none, .p (.mov (.tmp 13))⟩, ⟨(some 139), none, .p (.bin .lss (.tmp 138) (.const (.int .i64 0)))⟩])
  (.cond (.tmp 139) (.seq (.reg [⟨(some 4), none, .p (.mov (.const (.int .i64 (-1))))⟩])
  .ret) .skip))
  (.seq (.reg [⟨(some 140), none, .p (.mov (.tmp 8))⟩, ⟨(some 141), none, .p (.mov (.tmp 13))⟩, ⟨(some 142), none, .p (.bin .add (.tmp 140) (.tmp 141))⟩, ⟨(some 4), none, .p (.mov (.tmp 142))⟩])
  .ret))) .skip))))))))))
/-- internal stringslite.Index -/
def cf76 : LC :=
  (.seq (.reg [⟨(some 4), none, .p (.mov (.const (.int .i64 0)))⟩])
  (.seq (.reg [⟨(some 14), none, .p (.mov (.tmp 1))⟩, ⟨(some 15), none, .p (.len 0 (.tmp 14))⟩, ⟨(some 5), none, .p (.mov (.tmp 15))⟩])
  (.seq (.block 0
  (.seq (.reg [⟨(some 17), none, .p (.mov (.tmp 5))⟩, ⟨(some 18), none, .p (.bin .eql (.tmp 17) (.const (.int .i64 0)))⟩, ⟨(some 19), none, .p (.mov (.tmp 18))⟩, ⟨(some 20), (some (19, false)), .p (.mov (.tmp 1))⟩, ⟨(some 21), (some (19, false)), .p (.mov (.tmp 0))⟩, ⟨(some 22), (some (19, false)), .p (.bin .eql (.tmp 20) (.tmp 21))⟩, ⟨(some 23), none, .p (.pick (.tmp 19) (.const (.bool true)) (.tmp 22))⟩, ⟨(some 16), none, .p (.mov (.tmp 23))⟩])
  (.cond (.tmp 16) (.seq (.reg [⟨(some 4), none, .p (.mov (.const (.int .i64 0)))⟩])
  .ret) (.seq (.reg [⟨(some 25), none, .p (.mov (.tmp 5))⟩, ⟨(some 26), none, .p (.bin .eql (.tmp 25) (.const (.int .i64 1)))⟩, ⟨(some 24), none, .p (.mov (.tmp 26))⟩])
  (.cond (.tmp 24) (.seq (.reg [⟨(some 27), none, .p (.mov (.tmp 0))⟩, ⟨(some 28), none, .p (.mov (.tmp 1))⟩, ⟨(some 29), none, .p (.idxs (.tmp 28) (.const (.int .i64 0)))⟩, ⟨(some 30), none, .e (.call 83 [(.tmp 27), (.tmp 29)])⟩, ⟨(some 4), none, .p (.mov (.tmp 30))⟩])
  .ret) (.seq (.reg [⟨(some 32), none, .p (.mov (.tmp 5))⟩, ⟨(some 33), none, .p (.mov (.tmp 0))⟩, ⟨(some 34), none, .p (.len 0 (.tmp 33))⟩, ⟨(some 35), none, .p (.bin .geq (.tmp 32) (.tmp 34))⟩, ⟨(some 31), none, .p (.mov (.tmp 35))⟩])
  (.cond (.tmp 31) (.seq (.reg [⟨(some 4), none, .p (.mov (.const (.int .i64 (-1))))⟩])
  .ret) (.seq (.reg [⟨(some 37), none, .p (.mov (.tmp 5))⟩, ⟨(some 38), none, .p (.ld none (.global 0))⟩, ⟨(some 39), none, .p (.bin .leq (.tmp 37) (.tmp 38))⟩, ⟨(some 40), none, .p (.mov (.tmp 39))⟩, ⟨(some 41), (some (40, true)), .p (.mov (.tmp 0))⟩, ⟨(some 42), (some (40, true)), .p (.len 0 (.tmp 41))⟩, ⟨(some 43), (some (40, true)), .p (.bin .leq (.tmp 42) (.const (.int .i64 64)))⟩, ⟨(some 44), none, .p (.pick (.tmp 40) (.tmp 43) (.const (.bool false)))⟩, ⟨(some 36), none, .p (.mov (.tmp 44))⟩])
  (.cond (.tmp 36) (.seq (.reg [⟨(some 45), none, .p (.mov (.tmp 0))⟩, ⟨(some 46), none, .p (.mov (.tmp 1))⟩, ⟨(some 47), none, .e (.ext 84 [(.tmp 45), (.tmp 46)])⟩, ⟨(some 4), none, .p (.mov (.tmp 47))⟩])
  .ret) .skip)))))))))
  (.seq (.reg [⟨(some 48), none, .p (.mov (.tmp 1))⟩, ⟨(some 49), none, .p (.idxs (.tmp 48) (.const (.int .i64 0)))⟩, ⟨(some 6), none, .p (.mov (.tmp 49))⟩])
  (.seq (.reg [⟨(some 50), none, .p (.mov (.tmp 1))⟩, ⟨(some 51), none, .p (.idxs (.tmp 50) (.const (.int .i64 1)))⟩, ⟨(some 7), none, .p (.mov (.tmp 51))⟩])
  (.seq (.reg [⟨(some 8), none, .p (.mov (.const (.int .i64 0)))⟩])
  (.seq (.reg [⟨(some 52), none, .p (.mov (.tmp 0))⟩, ⟨(some 53), none, .p (.len 0 (.tmp 52))⟩, ⟨(some 54), none, .p (.mov (.tmp 5))⟩, ⟨(some 55), none, .p (.bin .sub (.tmp 53) (.tmp 54))⟩, ⟨(some 56), none, .p (.bin .add (.tmp 55) (.const (.int .i64 1)))⟩, ⟨(some 9), none, .p (.mov (.tmp 56))⟩])
  (.seq (.reg [⟨(some 10), none, .p (.mov (.const (.int .i64 0)))⟩])
  (.seq (.block 1
  (.loop lb76_0))
  (.seq (.reg [⟨(some 4), none, .p (.mov (.const (.int .i64 (-1))))⟩])
  .ret))))))))))
def rf76 : List RX := [.tmp 4]
set_option maxRecDepth 100000 in
theorem comp76 : cFn Tryd.prog Tryd.f76 = some (erase cf76, rf76) := by kernel_rfl
/-- internal stringslite.IndexByte -/
def cf83 : LC :=
  (.seq (.reg [⟨(some 4), none, .p (.mov (.const (.int .i64 0)))⟩])
  (.seq (.reg [⟨(some 5), none, .p (.mov (.tmp 0))⟩, ⟨(some 6), none, .p (.mov (.tmp 1))⟩, ⟨(some 7), none, .e (.ext 92 [(.tmp 5), (.tmp 6)])⟩, ⟨(some 4), none, .p (.mov (.tmp 7))⟩])
  .ret))
def rf83 : List RX := [.tmp 4]
set_option maxRecDepth 100000 in
theorem comp83 : cFn Tryd.prog Tryd.f83 = some (erase cf83, rf83) := by kernel_rfl
end Go.Proofs.YtchpncmmlhfemaaDoor
namespace Go.Proofs.YtchpncmmlhfemaaDoor
/-- math bits.Len64 -/
def cf88 : LC :=
  (.seq (.reg [⟨(some 2), none, .p (.mov (.const (.int .i64 0)))⟩])
  (.seq (.seq (.reg [⟨(some 3), none, .p (.mov (.tmp 0))⟩, ⟨(some 4), none, .p (.bin .geq (.tmp 3) (.const (.int .u64 4294967296)))⟩])
  (.cond (.tmp 4) (.seq (.reg [⟨(some 5), none, .p (.mov (.tmp 0))⟩, ⟨(some 6), none, .p (.bin .shr (.tmp 5) (.const (.int .u64 32)))⟩, ⟨(some 0), none, .p (.mov (.tmp 6))⟩])
  (.reg [⟨(some 2), none, .p (.mov (.const (.int .i64 32)))⟩])) .skip))
  (.seq (.seq (.reg [⟨(some 7), none, .p (.mov (.tmp 0))⟩, ⟨(some 8), none, .p (.bin .geq (.tmp 7) (.const (.int .u64 65536)))⟩])
  (.cond (.tmp 8) (.seq (.reg [⟨(some 9), none, .p (.mov (.tmp 0))⟩, ⟨(some 10), none, .p (.bin .shr (.tmp 9) (.const (.int .u64 16)))⟩, ⟨(some 0), none, .p (.mov (.tmp 10))⟩])
  (.reg [⟨(some 11), none, .p (.mov (.tmp 2))⟩, ⟨(some 12), none, .p (.bin .add (.tmp 11) (.const (.int .i64 16)))⟩, ⟨(some 2), none, .p (.mov (.tmp 12))⟩])) .skip))
  (.seq (.seq (.reg [⟨(some 13), none, .p (.mov (.tmp 0))⟩, ⟨(some 14), none, .p (.bin .geq (.tmp 13) (.const (.int .u64 256)))⟩])
  (.cond (.tmp 14) (.seq (.reg [⟨(some 15), none, .p (.mov (.tmp 0))⟩, ⟨(some 16), none, .p (.bin .shr (.tmp 15) (.const (.int .u64 8)))⟩, ⟨(some 0), none, .p (.mov (.tmp 16))⟩])
  (.reg [⟨(some 17), none, .p (.mov (.tmp 2))⟩, ⟨(some 18), none, .p (.bin .add (.tmp 17) (.const (.int .i64 8)))⟩, ⟨(some 2), none, .p (.mov (.tmp 18))⟩])) .skip))
  (.seq (.reg [⟨(some 19), none, .p (.mov (.tmp 2))⟩, ⟨(some 20), none, .p (.mov (.tmp 0))⟩, ⟨(some 21), none, .p (.cvt .u8 (.tmp 20))⟩, ⟨(some 22), none, .p (.idxs (.const (.string ⟨#[0, 1, 2, 2, 3, 3, 3, 3, 4, 4, 4, 4, 4, 4, 4, 4, 5, 5, 5, 5, 5, 5, 5, 5, 5, 5, 5, 5, 5, 5, 5, 5, 6, 6, 6, 6, 6, 6, 6, 6, 6, 6, 6, 6, 6, 6, 6, 6, 6, 6, 6, 6, 6, 6, 6, 6, 6, 6, 6, 6, 6, 6, 6, 6, 7, 7, 7, 7, 7, 7, 7, 7, 7, 7, 7, 7, 7, 7, 7, 7, 7, 7, 7, 7, 7, 7, 7, 7, 7, 7, 7, 7, 7, 7, 7, 7, 7, 7, 7, 7, 7, 7, 7, 7, 7, 7, 7, 7, 7, 7, 7, 7, 7, 7, 7, 7, 7, 7, 7, 7, 7, 7, 7, 7, 7, 7, 7, 7, 8, 8, 8, 8, 8, 8, 8, 8, 8, 8, 8, 8, 8, 8, 8, 8, 8, 8, 8, 8, 8, 8, 8, 8, 8, 8, 8, 8, 8, 8, 8, 8, 8, 8, 8, 8, 8, 8, 8, 8, 8, 8, 8, 8, 8, 8, 8, 8, 8, 8, 8, 8, 8, 8, 8, 8, 8, 8, 8, 8, 8, 8, 8, 8, 8, 8, 8, 8, 8, 8, 8, 8, 8, 8, 8, 8, 8, 8, 8, 8, 8, 8, 8, 8, 8, 8, 8, 8, 8, 8, 8, 8, 8, 8, 8, 8, 8, 8, 8, 8, 8, 8, 8, 8, 8, 8, 8, 8, 8, 8, 8, 8, 8, 8, 8, 8, 8, 8, 8, 8, 8, 8, 8, 8, 8, 8, 8, 8]⟩)) (.tmp 21))⟩, ⟨(some 23), none, .p (.cvt .i64 (.tmp 22))⟩, ⟨(some 24), none, .p (.bin .add (.tmp 19) (.tmp 23))⟩, ⟨(some 2), none, .p (.mov (.tmp 24))⟩])
  .ret)))))
def rf88 : List RX := [.tmp 2]
set_option maxRecDepth 100000 in
theorem comp88 : cFn Tryd.prog Tryd.f88 = some (erase cf88, rf88) := by kernel_rfl
/-- math bits.TrailingZeros -/
def cf91 : LC :=
  (.seq (.reg [⟨(some 2), none, .p (.mov (.const (.int .i64 0)))⟩])
  (.seq (.cond (.const (.bool false)) (.seq (.reg [⟨(some 3), none, .p (.mov (.tmp 0))⟩, ⟨(some 4), none, .p (.cvt .u32 (.tmp 3))⟩, ⟨(some 5), none, .e (.call 94 [(.tmp 4)])⟩, ⟨(some 2), none, .p (.mov (.tmp 5))⟩])
  .ret) .skip)
  (.seq (.reg [⟨(some 6), none, .p (.mov (.tmp 0))⟩, ⟨(some 7), none, .e (.call 95 [(.tmp 6)])⟩, ⟨(some 2), none, .p (.mov (.tmp 7))⟩])
  .ret)))
def rf91 : List RX := [.tmp 2]
set_option maxRecDepth 100000 in
theorem comp91 : cFn Tryd.prog Tryd.f91 = some (erase cf91, rf91) := by kernel_rfl
/-- math bits.TrailingZeros32 -/
def cf94 : LC :=
  (.seq (.reg [⟨(some 2), none, .p (.mov (.const (.int .i64 0)))⟩])
  (.seq (.seq (.reg [⟨(some 3), none, .p (.mov (.tmp 0))⟩, ⟨(some 4), none, .p (.bin .eql (.tmp 3) (.const (.int .u32 0)))⟩])
  (.cond (.tmp 4) (.seq (.reg [⟨(some 2), none, .p (.mov (.const (.int .i64 32)))⟩])
  .ret) .skip))
  (.seq (.reg [⟨(some 5), none, .p (.mov (.tmp 0))⟩, ⟨(some 6), none, .p (.mov (.tmp 0))⟩, ⟨(some 7), none, .p (.un .neg (.tmp 6))⟩, ⟨(some 8), none, .p (.bin .and (.tmp 5) (.tmp 7))⟩, ⟨(some 9), none, .p (.bin .mul (.tmp 8) (.const (.int .u32 125613361)))⟩, ⟨(some 10), none, .p (.bin .shr (.tmp 9) (.const (.int .u64 27)))⟩, ⟨(some 11), none, .p (.iada 32 1 (.global 4) (.tmp 10))⟩, ⟨(some 12), none, .p (.ld none (.tmp 11))⟩, ⟨(some 13), none, .p (.cvt .i64 (.tmp 12))⟩, ⟨(some 2), none, .p (.mov (.tmp 13))⟩])
  .ret)))
def rf94 : List RX := [.tmp 2]
set_option maxRecDepth 100000 in
theorem comp94 : cFn Tryd.prog Tryd.f94 = some (erase cf94, rf94) := by kernel_rfl
/-- math bits.TrailingZeros64 -/
def cf95 : LC :=
  (.seq (.reg [⟨(some 2), none, .p (.mov (.const (.int .i64 0)))⟩])
  (.seq (.seq (.reg [⟨(some 3), none, .p (.mov (.tmp 0))⟩, ⟨(some 4), none, .p (.bin .eql (.tmp 3) (.const (.int .u64 0)))⟩])
  (.cond (.tmp 4) (.seq (.reg [⟨(some 2), none, .p (.mov (.const (.int .i64 64)))⟩])
  .ret) .skip))
  (.seq (.reg [⟨(some 5), none, .p (.mov (.tmp 0))⟩, ⟨(some 6), none, .p (.mov (.tmp 0))⟩, ⟨(some 7), none, .p (.un .neg (.tmp 6))⟩, ⟨(some 8), none, .p (.bin .and (.tmp 5) (.tmp 7))⟩, ⟨(some 9), none, .p (.bin .mul (.tmp 8) (.const (.int .u64 285870213051353865)))⟩, ⟨(some 10), none, .p (.bin .shr (.tmp 9) (.const (.int .u64 58)))⟩, ⟨(some 11), none, .p (.iada 64 1 (.global 5) (.tmp 10))⟩, ⟨(some 12), none, .p (.ld none (.tmp 11))⟩, ⟨(some 13), none, .p (.cvt .i64 (.tmp 12))⟩, ⟨(some 2), none, .p (.mov (.tmp 13))⟩])
  .ret)))
def rf95 : List RX := [.tmp 2]
set_option maxRecDepth 100000 in
theorem comp95 : cFn Tryd.prog Tryd.f95 = some (erase cf95, rf95) := by kernel_rfl
end Go.Proofs.YtchpncmmlhfemaaDoor
namespace Go.Proofs.YtchpncmmlhfemaaDoor
/-- slices.Clone   bool bool  -/
def cf17 : LC :=
  (.seq (.reg [⟨(some 2), none, .p (.mov (.const (.slice none 0 0)))⟩])
  (.seq (.seq (.reg [⟨(some 3), none, .p (.mov (.tmp 0))⟩, ⟨(some 4), none, .p (.nile (.tmp 3))⟩])
  (.cond (.tmp 4) (.seq (.reg [⟨(some 2), none, .p (.mov (.const (.slice none 0 0)))⟩])
  .ret) .skip))
  (.seq (.reg [⟨(some 5), none, .e (.bsl 2 0 1 [(.bool false)] [])⟩, ⟨(some 6), none, .p (.mov (.tmp 0))⟩, ⟨(some 7), none, .e (.app 2 1 1 (.tmp 5) (.tmp 6))⟩, ⟨(some 2), none, .p (.mov (.tmp 7))⟩])
  .ret)))
def rf17 : List RX := [.tmp 2]
set_option maxRecDepth 100000 in
theorem comp17 : cFn Tryd.prog Tryd.f17 = some (erase cf17, rf17) := by kernel_rfl
def lb21_0 : LC :=
  (.seq (.reg [⟨(some 14), none, .p (.bin .lss (.tmp 13) (.tmp 12))⟩])
  (.seq (.cond (.tmp 14) .skip (.exit 0))
  (.seq (.block 1
  (.seq (.reg [⟨(some 15), none, .p (.mov (.tmp 13))⟩, ⟨(some 5), none, .p (.mov (.tmp 15))⟩])
  (.seq (.dreg [⟨(some 16), none, .p (.mov (.tmp 0))⟩, ⟨(some 17), none, .p (.mov (.tmp 5))⟩, ⟨(some 18), none, .p (.iad 1 (.tmp 16) (.tmp 17))⟩, ⟨(some 19), none, .p (.ld none (.tmp 18))⟩, ⟨(some 20), none, .p (.mov (.tmp 1))⟩, ⟨(some 21), none, .p (.mov (.tmp 5))⟩, ⟨(some 22), none, .p (.iad 1 (.tmp 20) (.tmp 21))⟩, ⟨(some 23), none, .p (.ld none (.tmp 22))⟩] [[⟨(some 24), none, .p (.bin .neq (.tmp 19) (.tmp 23))⟩]])
  (.cond (.tmp 24) (.seq (.reg [⟨(some 4), none, .p (.mov (.const (.bool false)))⟩])
  .ret) .skip))))
  (.reg [⟨(some 25), none, .p (.bin .add (.tmp 13) (.const (.int .i64 1)))⟩, ⟨(some 13), none, .p (.mov (.tmp 25))⟩]))))
/-- slices.Equal   int int  -/
def cf21 : LC :=
  (.seq (.reg [⟨(some 4), none, .p (.mov (.const (.bool false)))⟩])
  (.seq (.seq (.reg [⟨(some 6), none, .p (.mov (.tmp 0))⟩, ⟨(some 7), none, .p (.len 1 (.tmp 6))⟩, ⟨(some 8), none, .p (.mov (.tmp 1))⟩, ⟨(some 9), none, .p (.len 1 (.tmp 8))⟩, ⟨(some 10), none, .p (.bin .neq (.tmp 7) (.tmp 9))⟩])
  (.cond (.tmp 10) (.seq (.reg [⟨(some 4), none, .p (.mov (.const (.bool false)))⟩])
  .ret) .skip))
  (.seq (.seq (.reg [⟨(some 11), none, .p (.mov (.tmp 0))⟩, ⟨(some 12), none, .p (.len 1 (.tmp 11))⟩, ⟨(some 13), none, .p (.mov (.const (.int .i64 0)))⟩])
  (.block 0
  (.loop lb21_0)))
  (.seq (.reg [⟨(some 4), none, .p (.mov (.const (.bool true)))⟩])
  .ret))))
def rf21 : List RX := [.tmp 4]
set_option maxRecDepth 100000 in
theorem comp21 : cFn Tryd.prog Tryd.f21 = some (erase cf21, rf21) := by kernel_rfl
def lb24_0 : LC :=
  (.seq (.reg [⟨(some 18), none, .p (.bin .lss (.tmp 17) (.tmp 16))⟩])
  (.seq (.cond (.tmp 18) .skip (.exit 0))
  (.seq (.block 1
  (.seq (.reg [⟨(some 19), none, .p (.mov (.tmp 17))⟩, ⟨(some 20), none, .p (.iad 1 (.tmp 15) (.tmp 17))⟩, ⟨(some 21), none, .p (.ld none (.tmp 20))⟩, ⟨(some 7), none, .p (.mov (.tmp 19))⟩, ⟨(some 8), none, .p (.mov (.tmp 21))⟩])
  (.seq (.reg [⟨(some 22), none, .p (.mov (.tmp 1))⟩, ⟨(some 23), none, .p (.mov (.tmp 7))⟩, ⟨(some 24), none, .p (.iad 1 (.tmp 22) (.tmp 23))⟩, ⟨(some 25), none, .p (.ld none (.tmp 24))⟩, ⟨(some 9), none, .p (.mov (.tmp 25))⟩])
  (.seq (.reg [⟨(some 26), none, .p (.mov (.tmp 2))⟩, ⟨(some 27), none, .p (.mov (.tmp 8))⟩, ⟨(some 28), none, .p (.mov (.tmp 9))⟩, ⟨(some 29), none, .e (.calv (.tmp 26) [(.tmp 27), (.tmp 28)])⟩, ⟨(some 30), none, .p (.un .not (.tmp 29))⟩])
  (.cond (.tmp 30) (.seq (.reg [⟨(some 6), none, .p (.mov (.const (.bool false)))⟩])
  .ret) .skip)))))
  (.reg [⟨(some 31), none, .p (.bin .add (.tmp 17) (.const (.int .i64 1)))⟩, ⟨(some 17), none, .p (.mov (.tmp 31))⟩]))))
/-- slices.EqualFunc     int     int   int   int  -/
def cf24 : LC :=
  (.seq (.reg [⟨(some 6), none, .p (.mov (.const (.bool false)))⟩])
  (.seq (.seq (.reg [⟨(some 10), none, .p (.mov (.tmp 0))⟩, ⟨(some 11), none, .p (.len 1 (.tmp 10))⟩, ⟨(some 12), none, .p (.mov (.tmp 1))⟩, ⟨(some 13), none, .p (.len 1 (.tmp 12))⟩, ⟨(some 14), none, .p (.bin .neq (.tmp 11) (.tmp 13))⟩])
  (.cond (.tmp 14) (.seq (.reg [⟨(some 6), none, .p (.mov (.const (.bool false)))⟩])
  .ret) .skip))
  (.seq (.seq (.reg [⟨(some 15), none, .p (.mov (.tmp 0))⟩, ⟨(some 16), none, .p (.len 1 (.tmp 15))⟩, ⟨(some 17), none, .p (.mov (.const (.int .i64 0)))⟩])
  (.block 0
  (.loop lb24_0)))
  (.seq (.reg [⟨(some 6), none, .p (.mov (.const (.bool true)))⟩])
  .ret))))
def rf24 : List RX := [.tmp 6]
set_option maxRecDepth 100000 in
theorem comp24 : cFn Tryd.prog Tryd.f24 = some (erase cf24, rf24) := by kernel_rfl
/-- slices.ContainsFunc   int int  -/
def cf26 : LC :=
  (.seq (.reg [⟨(some 4), none, .p (.mov (.const (.bool false)))⟩])
  (.seq (.reg [⟨(some 5), none, .p (.mov (.tmp 0))⟩, ⟨(some 6), none, .p (.mov (.tmp 1))⟩, ⟨(some 7), none, .e (.call 44 [(.tmp 5), (.tmp 6)])⟩, ⟨(some 8), none, .p (.bin .geq (.tmp 7) (.const (.int .i64 0)))⟩, ⟨(some 4), none, .p (.mov (.tmp 8))⟩])
  .ret))
def rf26 : List RX := [.tmp 4]
set_option maxRecDepth 100000 in
theorem comp26 : cFn Tryd.prog Tryd.f26 = some (erase cf26, rf26) := by kernel_rfl
def lb44_0 : LC :=
  (.seq (.reg [⟨(some 9), none, .p (.bin .lss (.tmp 8) (.tmp 7))⟩])
  (.seq (.cond (.tmp 9) .skip (.exit 0))
  (.seq (.block 1
  (.seq (.reg [⟨(some 10), none, .p (.mov (.tmp 8))⟩, ⟨(some 5), none, .p (.mov (.tmp 10))⟩])
  (.seq (.reg [⟨(some 11), none, .p (.mov (.tmp 1))⟩, ⟨(some 12), none, .p (.mov (.tmp 0))⟩, ⟨(some 13), none, .p (.mov (.tmp 5))⟩, ⟨(some 14), none, .p (.iad 1 (.tmp 12) (.tmp 13))⟩, ⟨(some 15), none, .p (.ld none (.tmp 14))⟩, ⟨(some 16), none, .e (.calv (.tmp 11) [(.tmp 15)])⟩])
  (.cond (.tmp 16) (.seq (.reg [⟨(some 17), none, .p (.mov (.tmp 5))⟩, ⟨(some 4), none, .p (.mov (.tmp 17))⟩])
  .ret) .skip))))
  (.reg [⟨(some 18), none, .p (.bin .add (.tmp 8) (.const (.int .i64 1)))⟩, ⟨(some 8), none, .p (.mov (.tmp 18))⟩]))))
/-- slices.IndexFunc   int int  -/
def cf44 : LC :=
  (.seq (.reg [⟨(some 4), none, .p (.mov (.const (.int .i64 0)))⟩])
  (.seq (.seq (.reg [⟨(some 6), none, .p (.mov (.tmp 0))⟩, ⟨(some 7), none, .p (.len 1 (.tmp 6))⟩, ⟨(some 8), none, .p (.mov (.const (.int .i64 0)))⟩])
  (.block 0
  (.loop lb44_0)))
  (.seq (.reg [⟨(some 4), none, .p (.mov (.const (.int .i64 (-1))))⟩])
  .ret)))
def rf44 : List RX := [.tmp 4]
set_option maxRecDepth 100000 in
theorem comp44 : cFn Tryd.prog Tryd.f44 = some (erase cf44, rf44) := by kernel_rfl
def lb52_0 : LC :=
  (.seq (.reg [⟨(some 14), none, .p (.bin .lss (.tmp 13) (.tmp 12))⟩])
  (.seq (.cond (.tmp 14) .skip (.exit 0))
  (.seq (.block 1
  (.seq (.reg [⟨(some 15), none, .p (.mov (.tmp 13))⟩, ⟨(some 5), none, .p (.mov (.tmp 15))⟩])
  (.seq (.dreg [⟨(some 16), none, .p (.mov (.tmp 0))⟩, ⟨(some 17), none, .p (.mov (.tmp 5))⟩, ⟨(some 18), none, .p (.iad 3 (.tmp 16) (.tmp 17))⟩, ⟨(some 19), none, .p (.ld (some 3) (.tmp 18))⟩, ⟨(some 20), none, .p (.mov (.tmp 1))⟩, ⟨(some 21), none, .p (.mov (.tmp 5))⟩, ⟨(some 22), none, .p (.iad 3 (.tmp 20) (.tmp 21))⟩, ⟨(some 23), none, .p (.ld (some 3) (.tmp 22))⟩] [[⟨(some 24), none, .p (.eqa true [.s, .b, (.i .i64)] (.tmp 19) (.tmp 23))⟩]])
  (.cond (.tmp 24) (.seq (.reg [⟨(some 4), none, .p (.mov (.const (.bool false)))⟩])
  .ret) .skip))))
  (.reg [⟨(some 25), none, .p (.bin .add (.tmp 13) (.const (.int .i64 1)))⟩, ⟨(some 13), none, .p (.mov (.tmp 25))⟩]))))
/-- slices.Equal   fairlink api.Node fairlink api.Node  -/
def cf52 : LC :=
  (.seq (.reg [⟨(some 4), none, .p (.mov (.const (.bool false)))⟩])
  (.seq (.seq (.reg [⟨(some 6), none, .p (.mov (.tmp 0))⟩, ⟨(some 7), none, .p (.len 1 (.tmp 6))⟩, ⟨(some 8), none, .p (.mov (.tmp 1))⟩, ⟨(some 9), none, .p (.len 1 (.tmp 8))⟩, ⟨(some 10), none, .p (.bin .neq (.tmp 7) (.tmp 9))⟩])
  (.cond (.tmp 10) (.seq (.reg [⟨(some 4), none, .p (.mov (.const (.bool false)))⟩])
  .ret) .skip))
  (.seq (.seq (.reg [⟨(some 11), none, .p (.mov (.tmp 0))⟩, ⟨(some 12), none, .p (.len 1 (.tmp 11))⟩, ⟨(some 13), none, .p (.mov (.const (.int .i64 0)))⟩])
  (.block 0
  (.loop lb52_0)))
  (.seq (.reg [⟨(some 4), none, .p (.mov (.const (.bool true)))⟩])
  .ret))))
def rf52 : List RX := [.tmp 4]
set_option maxRecDepth 100000 in
theorem comp52 : cFn Tryd.prog Tryd.f52 = some (erase cf52, rf52) := by kernel_rfl
def lb53_0 : LC :=
  (.seq (.reg [⟨(some 14), none, .p (.bin .lss (.tmp 13) (.tmp 12))⟩])
  (.seq (.cond (.tmp 14) .skip (.exit 0))
  (.seq (.block 1
  (.seq (.reg [⟨(some 15), none, .p (.mov (.tmp 13))⟩, ⟨(some 5), none, .p (.mov (.tmp 15))⟩])
  (.seq (.dreg [⟨(some 16), none, .p (.mov (.tmp 0))⟩, ⟨(some 17), none, .p (.mov (.tmp 5))⟩, ⟨(some 18), none, .p (.iad 6 (.tmp 16) (.tmp 17))⟩, ⟨(some 19), none, .p (.ld (some 6) (.tmp 18))⟩, ⟨(some 20), none, .p (.mov (.tmp 1))⟩, ⟨(some 21), none, .p (.mov (.tmp 5))⟩, ⟨(some 22), none, .p (.iad 6 (.tmp 20) (.tmp 21))⟩, ⟨(some 23), none, .p (.ld (some 6) (.tmp 22))⟩] [[⟨(some 24), none, .p (.eqa true [(.i .i64), (.i .i64), (.i .i64), (.i .i64), (.i .i64), (.i .i64)] (.tmp 19) (.tmp 23))⟩]])
  (.cond (.tmp 24) (.seq (.reg [⟨(some 4), none, .p (.mov (.const (.bool false)))⟩])
  .ret) .skip))))
  (.reg [⟨(some 25), none, .p (.bin .add (.tmp 13) (.const (.int .i64 1)))⟩, ⟨(some 13), none, .p (.mov (.tmp 25))⟩]))))
/-- slices.Equal   fairlink api.Cable fairlink api.Cable  -/
def cf53 : LC :=
  (.seq (.reg [⟨(some 4), none, .p (.mov (.const (.bool false)))⟩])
  (.seq (.seq (.reg [⟨(some 6), none, .p (.mov (.tmp 0))⟩, ⟨(some 7), none, .p (.len 1 (.tmp 6))⟩, ⟨(some 8), none, .p (.mov (.tmp 1))⟩, ⟨(some 9), none, .p (.len 1 (.tmp 8))⟩, ⟨(some 10), none, .p (.bin .neq (.tmp 7) (.tmp 9))⟩])
  (.cond (.tmp 10) (.seq (.reg [⟨(some 4), none, .p (.mov (.const (.bool false)))⟩])
  .ret) .skip))
  (.seq (.seq (.reg [⟨(some 11), none, .p (.mov (.tmp 0))⟩, ⟨(some 12), none, .p (.len 1 (.tmp 11))⟩, ⟨(some 13), none, .p (.mov (.const (.int .i64 0)))⟩])
  (.block 0
  (.loop lb53_0)))
  (.seq (.reg [⟨(some 4), none, .p (.mov (.const (.bool true)))⟩])
  .ret))))
def rf53 : List RX := [.tmp 4]
set_option maxRecDepth 100000 in
theorem comp53 : cFn Tryd.prog Tryd.f53 = some (erase cf53, rf53) := by kernel_rfl
end Go.Proofs.YtchpncmmlhfemaaDoor
namespace Go.Proofs.YtchpncmmlhfemaaDoor
/-- strings.SplitAfter -/
def cf32 : LC :=
  (.seq (.reg [⟨(some 4), none, .p (.mov (.const (.slice none 0 0)))⟩])
  (.seq (.reg [⟨(some 5), none, .p (.mov (.tmp 0))⟩, ⟨(some 6), none, .p (.mov (.tmp 1))⟩, ⟨(some 7), none, .p (.mov (.tmp 1))⟩, ⟨(some 8), none, .p (.len 0 (.tmp 7))⟩, ⟨(some 9), none, .e (.call 54 [(.tmp 5), (.tmp 6), (.tmp 8), (.const (.int .i64 (-1)))])⟩, ⟨(some 4), none, .p (.mov (.tmp 9))⟩])
  .ret))
def rf32 : List RX := [.tmp 4]
set_option maxRecDepth 100000 in
theorem comp32 : cFn Tryd.prog Tryd.f32 = some (erase cf32, rf32) := by kernel_rfl
def lb33_0 : LC :=
  (.seq (.reg [⟨(some 66), none, .p (.bin .lss (.tmp 65) (.tmp 64))⟩])
  (.seq (.cond (.tmp 66) .skip (.exit 3))
  (.seq (.block 4
  (.seq (.reg [⟨(some 67), none, .p (.iad 1 (.tmp 63) (.tmp 65))⟩, ⟨(some 68), none, .p (.ld none (.tmp 67))⟩, ⟨(some 10), none, .p (.mov (.tmp 68))⟩])
  (.seq (.reg [⟨(some 69), none, .p (.mov (.tmp 1))⟩, ⟨(some 70), none, .e (.call 46 [(.tmp 8), (.tmp 69)])⟩])
  (.reg [⟨(some 71), none, .p (.mov (.tmp 10))⟩, ⟨(some 72), none, .e (.call 46 [(.tmp 8), (.tmp 71)])⟩]))))
  (.reg [⟨(some 73), none, .p (.bin .add (.tmp 65) (.const (.int .i64 1)))⟩, ⟨(some 65), none, .p (.mov (.tmp 73))⟩]))))
def lb33_1 : LC :=
  (.seq (.reg [⟨(some 42), none, .p (.bin .lss (.tmp 41) (.tmp 40))⟩])
  (.seq (.cond (.tmp 42) .skip (.exit 1))
  (.seq (.block 2
  (.seq (.reg [⟨(some 43), none, .p (.iad 1 (.tmp 39) (.tmp 41))⟩, ⟨(some 44), none, .p (.ld none (.tmp 43))⟩, ⟨(some 7), none, .p (.mov (.tmp 44))⟩])
  (.seq (.seq (.reg [⟨(some 45), none, .p (.mov (.tmp 7))⟩, ⟨(some 46), none, .p (.len 0 (.tmp 45))⟩, ⟨(some 47), none, .p (.mov (.tmp 5))⟩, ⟨(some 48), none, .p (.bin .sub (.const (.int .i64 9223372036854775807)) (.tmp 47))⟩, ⟨(some 49), none, .p (.bin .gtr (.tmp 46) (.tmp 48))⟩])
  (.cond (.tmp 49) (.reg [⟨(some 50), none, .e (.bad)⟩, ⟨none, none, .e (.bad)⟩]) .skip))
  (.reg [⟨(some 51), none, .p (.mov (.tmp 5))⟩, ⟨(some 52), none, .p (.mov (.tmp 7))⟩, ⟨(some 53), none, .p (.len 0 (.tmp 52))⟩, ⟨(some 54), none, .p (.bin .add (.tmp 51) (.tmp 53))⟩, ⟨(some 5), none, .p (.mov (.tmp 54))⟩]))))
  (.reg [⟨(some 55), none, .p (.bin .add (.tmp 41) (.const (.int .i64 1)))⟩, ⟨(some 41), none, .p (.mov (.tmp 55))⟩]))))
/-- strings.Join -/
def cf33 : LC :=
  (.seq (.reg [⟨(some 4), none, .p (.mov (.const (.string ⟨#[]⟩)))⟩])
  (.seq (.seq (.reg [⟨(some 11), none, .p (.mov (.tmp 0))⟩, ⟨(some 12), none, .p (.len 1 (.tmp 11))⟩])
  (.block 0
  (.seq (.reg [⟨(some 14), none, .p (.bin .eql (.tmp 12) (.const (.int .i64 0)))⟩, ⟨(some 13), none, .p (.mov (.tmp 14))⟩])
  (.cond (.tmp 13) (.seq (.reg [⟨(some 4), none, .p (.mov (.const (.string ⟨#[]⟩)))⟩])
  .ret) (.seq (.reg [⟨(some 16), none, .p (.bin .eql (.tmp 12) (.const (.int .i64 1)))⟩, ⟨(some 15), none, .p (.mov (.tmp 16))⟩])
  (.cond (.tmp 15) (.seq (.reg [⟨(some 17), none, .p (.mov (.tmp 0))⟩, ⟨(some 18), none, .p (.iad 1 (.tmp 17) (.const (.int .i64 0)))⟩, ⟨(some 19), none, .p (.ld none (.tmp 18))⟩, ⟨(some 4), none, .p (.mov (.tmp 19))⟩])
  .ret) .skip))))))
  (.seq (.reg [⟨(some 5), none, .p (.mov (.const (.int .i64 0)))⟩])
  (.seq (.seq (.reg [⟨(some 20), none, .p (.mov (.tmp 1))⟩, ⟨(some 21), none, .p (.len 0 (.tmp 20))⟩, ⟨(some 22), none, .p (.bin .gtr (.tmp 21) (.const (.int .i64 0)))⟩])
  (.cond (.tmp 22) (.seq (.seq (.reg [⟨(some 23), none, .p (.mov (.tmp 1))⟩, ⟨(some 24), none, .p (.len 0 (.tmp 23))⟩, ⟨(some 25), none, .p (.mov (.tmp 0))⟩, ⟨(some 26), none, .p (.len 1 (.tmp 25))⟩, ⟨(some 27), none, .p (.bin .sub (.tmp 26) (.const (.int .i64 1)))⟩, ⟨(some 28), none, .p (.bin .quo (.const (.int .i64 9223372036854775807)) (.tmp 27))⟩, ⟨(some 29), none, .p (.bin .geq (.tmp 24) (.tmp 28))⟩])
  (.cond (.tmp 29) (.reg [⟨(some 30), none, .e (.bad)⟩, ⟨none, none, .e (.bad)⟩]) .skip))
  (.reg [⟨(some 31), none, .p (.mov (.tmp 5))⟩, ⟨(some 32), none, .p (.mov (.tmp 1))⟩, ⟨(some 33), none, .p (.len 0 (.tmp 32))⟩, ⟨(some 34), none, .p (.mov (.tmp 0))⟩, ⟨(some 35), none, .p (.len 1 (.tmp 34))⟩, ⟨(some 36), none, .p (.bin .sub (.tmp 35) (.const (.int .i64 1)))⟩, ⟨(some 37), none, .p (.bin .mul (.tmp 33) (.tmp 36))⟩, ⟨(some 38), none, .p (.bin .add (.tmp 31) (.tmp 37))⟩, ⟨(some 5), none, .p (.mov (.tmp 38))⟩])) .skip))
  (.seq (.seq (.reg [⟨(some 39), none, .p (.mov (.tmp 0))⟩, ⟨(some 40), none, .p (.len 1 (.tmp 39))⟩, ⟨(some 41), none, .p (.mov (.const (.int .i64 0)))⟩])
  (.block 1
  (.loop lb33_1)))
  (.seq (.reg [⟨(some 8), none, .e (.alct 70 [(.pointer none), (.slice none 0 0)])⟩])
  (.seq (.reg [⟨(some 56), none, .p (.mov (.tmp 5))⟩, ⟨(some 57), none, .e (.call 55 [(.tmp 8), (.tmp 56)])⟩])
  (.seq (.reg [⟨(some 58), none, .p (.mov (.tmp 0))⟩, ⟨(some 59), none, .p (.iad 1 (.tmp 58) (.const (.int .i64 0)))⟩, ⟨(some 60), none, .p (.ld none (.tmp 59))⟩, ⟨(some 61), none, .e (.call 46 [(.tmp 8), (.tmp 60)])⟩])
  (.seq (.seq (.reg [⟨(some 62), none, .p (.mov (.tmp 0))⟩, ⟨(some 63), none, .p (.slc 1 (.tmp 62) (some (.const (.int .i64 1))) none)⟩, ⟨(some 64), none, .p (.len 1 (.tmp 63))⟩, ⟨(some 65), none, .p (.mov (.const (.int .i64 0)))⟩])
  (.block 3
  (.loop lb33_0)))
  (.seq (.reg [⟨(some 74), none, .e (.call 49 [(.tmp 8)])⟩, ⟨(some 4), none, .p (.mov (.tmp 74))⟩])
  .ret))))))))))
def rf33 : List RX := [.tmp 4]
set_option maxRecDepth 100000 in
theorem comp33 : cFn Tryd.prog Tryd.f33 = some (erase cf33, rf33) := by kernel_rfl
/-- strings.HasSuffix -/
def cf34 : LC :=
  (.seq (.reg [⟨(some 4), none, .p (.mov (.const (.bool false)))⟩])
  (.seq (.reg [⟨(some 5), none, .p (.mov (.tmp 0))⟩, ⟨(some 6), none, .p (.mov (.tmp 1))⟩, ⟨(some 7), none, .e (.call 56 [(.tmp 5), (.tmp 6)])⟩, ⟨(some 4), none, .p (.mov (.tmp 7))⟩])
  .ret))
def rf34 : List RX := [.tmp 4]
set_option maxRecDepth 100000 in
theorem comp34 : cFn Tryd.prog Tryd.f34 = some (erase cf34, rf34) := by kernel_rfl
/--   strings.Builder .WriteString -/
def cf46 : LC :=
  (.seq (.reg [⟨(some 4), none, .p (.mov (.const (.int .i64 0)))⟩, ⟨(some 5), none, .p (.mov (.const .nilIface))⟩])
  (.seq (.reg [⟨(some 6), none, .p (.mov (.tmp 0))⟩, ⟨(some 7), none, .e (.call 59 [(.tmp 6)])⟩])
  (.seq (.reg [⟨(some 8), none, .p (.mov (.tmp 0))⟩, ⟨(some 9), none, .p (.mov (.tmp 0))⟩, ⟨(some 10), none, .p (.nilc (.tmp 9))⟩, ⟨(some 11), none, .p (.fad 1 (.tmp 10))⟩, ⟨(some 12), none, .p (.ld none (.tmp 11))⟩, ⟨(some 13), none, .p (.mov (.tmp 1))⟩, ⟨(some 14), none, .e (.aps 5 1 (.tmp 12) (.tmp 13))⟩, ⟨(some 15), none, .p (.nilc (.tmp 8))⟩, ⟨(some 16), none, .p (.fad 1 (.tmp 15))⟩, ⟨none, none, .e (.st 1 (.tmp 16) (.tmp 14))⟩])
  (.seq (.reg [⟨(some 17), none, .p (.mov (.tmp 1))⟩, ⟨(some 18), none, .p (.len 0 (.tmp 17))⟩, ⟨(some 4), none, .p (.mov (.tmp 18))⟩, ⟨(some 5), none, .p (.mov (.const .nilIface))⟩])
  .ret))))
def rf46 : List RX := [.tmp 4, .tmp 5]
set_option maxRecDepth 100000 in
theorem comp46 : cFn Tryd.prog Tryd.f46 = some (erase cf46, rf46) := by kernel_rfl
/--   strings.Builder .WriteByte -/
def cf47 : LC :=
  (.seq (.reg [⟨(some 4), none, .p (.mov (.const .nilIface))⟩])
  (.seq (.reg [⟨(some 5), none, .p (.mov (.tmp 0))⟩, ⟨(some 6), none, .e (.call 59 [(.tmp 5)])⟩])
  (.seq (.reg [⟨(some 7), none, .p (.mov (.tmp 0))⟩, ⟨(some 8), none, .p (.mov (.tmp 0))⟩, ⟨(some 9), none, .p (.nilc (.tmp 8))⟩, ⟨(some 10), none, .p (.fad 1 (.tmp 9))⟩, ⟨(some 11), none, .p (.ld none (.tmp 10))⟩, ⟨(some 12), none, .p (.mov (.tmp 1))⟩, ⟨(some 13), none, .e (.bsr 1 1 [(.int .u8 0)] [(0, 1, (.tmp 12))])⟩, ⟨(some 14), none, .e (.aps 5 1 (.tmp 11) (.tmp 13))⟩, ⟨(some 15), none, .p (.nilc (.tmp 7))⟩, ⟨(some 16), none, .p (.fad 1 (.tmp 15))⟩, ⟨none, none, .e (.st 1 (.tmp 16) (.tmp 14))⟩])
  (.seq (.reg [⟨(some 4), none, .p (.mov (.const .nilIface))⟩])
  .ret))))
def rf47 : List RX := [.tmp 4]
set_option maxRecDepth 100000 in
theorem comp47 : cFn Tryd.prog Tryd.f47 = some (erase cf47, rf47) := by kernel_rfl
/-- strings.Cut -/
def cf61 : LC :=
  (.seq (.reg [⟨(some 4), none, .p (.mov (.const (.string ⟨#[]⟩)))⟩, ⟨(some 5), none, .p (.mov (.const (.string ⟨#[]⟩)))⟩, ⟨(some 6), none, .p (.mov (.const (.bool false)))⟩])
  (.seq (.reg [⟨(some 7), none, .p (.mov (.tmp 0))⟩, ⟨(some 8), none, .p (.mov (.tmp 1))⟩, ⟨(some 9), none, .e (.call 71 [(.tmp 7), (.tmp 8)])⟩, ⟨(some 10), none, .p (.ext (.tmp 9) 0)⟩, ⟨(some 11), none, .p (.ext (.tmp 9) 1)⟩, ⟨(some 12), none, .p (.ext (.tmp 9) 2)⟩, ⟨(some 4), none, .p (.mov (.tmp 10))⟩, ⟨(some 5), none, .p (.mov (.tmp 11))⟩, ⟨(some 6), none, .p (.mov (.tmp 12))⟩])
  .ret))
def rf61 : List RX := [.tmp 4, .tmp 5, .tmp 6]
set_option maxRecDepth 100000 in
theorem comp61 : cFn Tryd.prog Tryd.f61 = some (erase cf61, rf61) := by kernel_rfl
/-- strings.Split -/
def cf62 : LC :=
  (.seq (.reg [⟨(some 4), none, .p (.mov (.const (.slice none 0 0)))⟩])
  (.seq (.reg [⟨(some 5), none, .p (.mov (.tmp 0))⟩, ⟨(some 6), none, .p (.mov (.tmp 1))⟩, ⟨(some 7), none, .e (.call 54 [(.tmp 5), (.tmp 6), (.const (.int .i64 0)), (.const (.int .i64 (-1)))])⟩, ⟨(some 4), none, .p (.mov (.tmp 7))⟩])
  .ret))
def rf62 : List RX := [.tmp 4]
set_option maxRecDepth 100000 in
theorem comp62 : cFn Tryd.prog Tryd.f62 = some (erase cf62, rf62) := by kernel_rfl
def lb65_0 : LC :=
  (.seq (.seq (.reg [⟨(some 22), none, .p (.mov (.tmp 7))⟩, ⟨(some 23), none, .p (.mov (.tmp 1))⟩, ⟨(some 24), none, .p (.bin .sub (.tmp 23) (.const (.int .i64 1)))⟩, ⟨(some 25), none, .p (.bin .lss (.tmp 22) (.tmp 24))⟩])
  (.cond (.tmp 25) .skip (.exit 0)))
  (.seq (.block 1
  (.seq (.reg [⟨(some 29), none, .p (.mov (.tmp 0))⟩, ⟨(some 30), none, .e (.call 74 [(.tmp 29)])⟩, ⟨(some 28), none, .p (.mov (.tmp 30))⟩, ⟨(some 31), none, .p (.ext (.tmp 28) 0)⟩, ⟨(some 32), none, .p (.ext (.tmp 28) 1)⟩, ⟨(some 8), none, .p (.mov (.tmp 31))⟩, ⟨(some 9), none, .p (.mov (.tmp 32))⟩])
  (.seq (.reg [⟨(some 33), none, .p (.mov (.tmp 6))⟩, ⟨(some 34), none, .p (.mov (.tmp 7))⟩, ⟨(some 35), none, .p (.mov (.tmp 0))⟩, ⟨(some 36), none, .p (.mov (.tmp 9))⟩, ⟨(some 37), none, .p (.slcs (.tmp 35) none (some (.tmp 36)))⟩, ⟨(some 38), none, .p (.iad 1 (.tmp 33) (.tmp 34))⟩, ⟨none, none, .e (.st 1 (.tmp 38) (.tmp 37))⟩])
  (.reg [⟨(some 39), none, .p (.mov (.tmp 0))⟩, ⟨(some 40), none, .p (.mov (.tmp 9))⟩, ⟨(some 41), none, .p (.slcs (.tmp 39) (some (.tmp 40)) none)⟩, ⟨(some 0), none, .p (.mov (.tmp 41))⟩]))))
  (.reg [⟨(some 26), none, .p (.mov (.tmp 7))⟩, ⟨(some 27), none, .p (.bin .add (.tmp 26) (.const (.int .i64 1)))⟩, ⟨(some 7), none, .p (.mov (.tmp 27))⟩])))
/-- strings.explode -/
def cf65 : LC :=
  (.seq (.reg [⟨(some 4), none, .p (.mov (.const (.slice none 0 0)))⟩])
  (.seq (.reg [⟨(some 10), none, .p (.mov (.tmp 0))⟩, ⟨(some 11), none, .e (.call 73 [(.tmp 10)])⟩, ⟨(some 5), none, .p (.mov (.tmp 11))⟩])
  (.seq (.seq (.reg [⟨(some 12), none, .p (.mov (.tmp 1))⟩, ⟨(some 13), none, .p (.bin .lss (.tmp 12) (.const (.int .i64 0)))⟩, ⟨(some 14), none, .p (.mov (.tmp 13))⟩, ⟨(some 15), (some (14, false)), .p (.mov (.tmp 1))⟩, ⟨(some 16), (some (14, false)), .p (.mov (.tmp 5))⟩, ⟨(some 17), (some (14, false)), .p (.bin .gtr (.tmp 15) (.tmp 16))⟩, ⟨(some 18), none, .p (.pick (.tmp 14) (.const (.bool true)) (.tmp 17))⟩])
  (.cond (.tmp 18) (.reg [⟨(some 19), none, .p (.mov (.tmp 5))⟩, ⟨(some 1), none, .p (.mov (.tmp 19))⟩]) .skip))
  (.seq (.reg [⟨(some 20), none, .p (.mov (.tmp 1))⟩, ⟨(some 21), none, .e (.mks 0 1 [(.string ⟨#[]⟩)] 16 (.tmp 20) (.tmp 20))⟩, ⟨(some 6), none, .p (.mov (.tmp 21))⟩])
  (.seq (.seq (.reg [⟨(some 7), none, .p (.mov (.const (.int .i64 0)))⟩])
  (.block 0
  (.loop lb65_0)))
  (.seq (.seq (.reg [⟨(some 42), none, .p (.mov (.tmp 1))⟩, ⟨(some 43), none, .p (.bin .gtr (.tmp 42) (.const (.int .i64 0)))⟩])
  (.cond (.tmp 43) (.reg [⟨(some 44), none, .p (.mov (.tmp 6))⟩, ⟨(some 45), none, .p (.mov (.tmp 1))⟩, ⟨(some 46), none, .p (.bin .sub (.tmp 45) (.const (.int .i64 1)))⟩, ⟨(some 47), none, .p (.mov (.tmp 0))⟩, ⟨(some 48), none, .p (.iad 1 (.tmp 44) (.tmp 46))⟩, ⟨none, none, .e (.st 1 (.tmp 48) (.tmp 47))⟩]) .skip))
  (.seq (.reg [⟨(some 49), none, .p (.mov (.tmp 6))⟩, ⟨(some 4), none, .p (.mov (.tmp 49))⟩])
  .ret)))))))
def rf65 : List RX := [.tmp 4]
set_option maxRecDepth 100000 in
theorem comp65 : cFn Tryd.prog Tryd.f65 = some (erase cf65, rf65) := by kernel_rfl
def lb66_0 : LC :=
  (.block 1
  (.seq (.reg [⟨(some 20), none, .p (.mov (.tmp 0))⟩, ⟨(some 21), none, .p (.mov (.tmp 1))⟩, ⟨(some 22), none, .e (.call 67 [(.tmp 20), (.tmp 21)])⟩, ⟨(some 6), none, .p (.mov (.tmp 22))⟩])
  (.seq (.seq (.reg [⟨(some 23), none, .p (.mov (.tmp 6))⟩, ⟨(some 24), none, .p (.bin .eql (.tmp 23) (.const (.int .i64 (-1))))⟩])
  (.cond (.tmp 24) (.seq (.reg [⟨(some 25), none, .p (.mov (.tmp 5))⟩, ⟨(some 4), none, .p (.mov (.tmp 25))⟩])
  .ret) .skip))
  (.seq (.reg [⟨(some 26), none, .p (.mov (.tmp 5))⟩, ⟨(some 27), none, .p (.bin .add (.tmp 26) (.const (.int .i64 1)))⟩, ⟨(some 5), none, .p (.mov (.tmp 27))⟩])
  (.reg [⟨(some 28), none, .p (.mov (.tmp 0))⟩, ⟨(some 29), none, .p (.mov (.tmp 6))⟩, ⟨(some 30), none, .p (.mov (.tmp 1))⟩, ⟨(some 31), none, .p (.len 0 (.tmp 30))⟩, ⟨(some 32), none, .p (.bin .add (.tmp 29) (.tmp 31))⟩, ⟨(some 33), none, .p (.slcs (.tmp 28) (some (.tmp 32)) none)⟩, ⟨(some 0), none, .p (.mov (.tmp 33))⟩])))))
/-- strings.Count -/
def cf66 : LC :=
  (.seq (.reg [⟨(some 4), none, .p (.mov (.const (.int .i64 0)))⟩])
  (.seq (.seq (.reg [⟨(some 7), none, .p (.mov (.tmp 1))⟩, ⟨(some 8), none, .p (.len 0 (.tmp 7))⟩, ⟨(some 9), none, .p (.bin .eql (.tmp 8) (.const (.int .i64 0)))⟩])
  (.cond (.tmp 9) (.seq (.reg [⟨(some 10), none, .p (.mov (.tmp 0))⟩, ⟨(some 11), none, .e (.call 73 [(.tmp 10)])⟩, ⟨(some 12), none, .p (.bin .add (.tmp 11) (.const (.int .i64 1)))⟩, ⟨(some 4), none, .p (.mov (.tmp 12))⟩])
  .ret) .skip))
  (.seq (.seq (.reg [⟨(some 13), none, .p (.mov (.tmp 1))⟩, ⟨(some 14), none, .p (.len 0 (.tmp 13))⟩, ⟨(some 15), none, .p (.bin .eql (.tmp 14) (.const (.int .i64 1)))⟩])
  (.cond (.tmp 15) (.seq (.reg [⟨(some 16), none, .p (.mov (.tmp 0))⟩, ⟨(some 17), none, .p (.mov (.tmp 1))⟩, ⟨(some 18), none, .p (.idxs (.tmp 17) (.const (.int .i64 0)))⟩, ⟨(some 19), none, .e (.ext 75 [(.tmp 16), (.tmp 18)])⟩, ⟨(some 4), none, .p (.mov (.tmp 19))⟩])
  .ret) .skip))
  (.seq (.reg [⟨(some 5), none, .p (.mov (.const (.int .i64 0)))⟩])
  (.block 0
  (.loop lb66_0))))))
def rf66 : List RX := [.tmp 4]
set_option maxRecDepth 100000 in
theorem comp66 : cFn Tryd.prog Tryd.f66 = some (erase cf66, rf66) := by kernel_rfl
/-- strings.Index -/
def cf67 : LC :=
  (.seq (.reg [⟨(some 4), none, .p (.mov (.const (.int .i64 0)))⟩])
  (.seq (.reg [⟨(some 5), none, .p (.mov (.tmp 0))⟩, ⟨(some 6), none, .p (.mov (.tmp 1))⟩, ⟨(some 7), none, .e (.call 76 [(.tmp 5), (.tmp 6)])⟩, ⟨(some 4), none, .p (.mov (.tmp 7))⟩])
  .ret))
def rf67 : List RX := [.tmp 4]
set_option maxRecDepth 100000 in
theorem comp67 : cFn Tryd.prog Tryd.f67 = some (erase cf67, rf67) := by kernel_rfl
end Go.Proofs.YtchpncmmlhfemaaDoor
namespace Go.Proofs.YtchpncmmlhfemaaDoor
/-- unicode utf8.DecodeRuneInString -/
def cf74 : LC :=
  (.seq (.reg [⟨(some 2), none, .p (.mov (.const (.int .i32 0)))⟩, ⟨(some 3), none, .p (.mov (.const (.int .i64 0)))⟩])
  (.seq (.seq (.reg [⟨(some 4), none, .p (.mov (.tmp 0))⟩, ⟨(some 5), none, .p (.bin .neq (.tmp 4) (.const (.string ⟨#[]⟩)))⟩, ⟨(some 6), none, .p (.mov (.tmp 5))⟩, ⟨(some 7), (some (6, true)), .p (.mov (.tmp 0))⟩, ⟨(some 8), (some (6, true)), .p (.idxs (.tmp 7) (.const (.int .i64 0)))⟩, ⟨(some 9), (some (6, true)), .p (.bin .lss (.tmp 8) (.const (.int .u8 128)))⟩, ⟨(some 10), none, .p (.pick (.tmp 6) (.tmp 9) (.const (.bool false)))⟩])
  (.cond (.tmp 10) (.seq (.reg [⟨(some 11), none, .p (.mov (.tmp 0))⟩, ⟨(some 12), none, .p (.idxs (.tmp 11) (.const (.int .i64 0)))⟩, ⟨(some 13), none, .p (.cvt .i32 (.tmp 12))⟩, ⟨(some 2), none, .p (.mov (.tmp 13))⟩, ⟨(some 3), none, .p (.mov (.const (.int .i64 1)))⟩])
  .ret) (.reg [⟨(some 15), none, .p (.mov (.tmp 0))⟩, ⟨(some 16), none, .e (.call 82 [(.tmp 15)])⟩, ⟨(some 14), none, .p (.mov (.tmp 16))⟩, ⟨(some 17), none, .p (.ext (.tmp 14) 0)⟩, ⟨(some 18), none, .p (.ext (.tmp 14) 1)⟩, ⟨(some 2), none, .p (.mov (.tmp 17))⟩, ⟨(some 3), none, .p (.mov (.tmp 18))⟩])))
  .ret))
def rf74 : List RX := [.tmp 2, .tmp 3]
set_option maxRecDepth 100000 in
theorem comp74 : cFn Tryd.prog Tryd.f74 = some (erase cf74, rf74) := by kernel_rfl
/-- unicode utf8.decodeRuneInStringSlow -/
def cf82 : LC :=
  (.seq (.reg [⟨(some 2), none, .p (.mov (.const (.int .i32 0)))⟩, ⟨(some 3), none, .p (.mov (.const (.int .i64 0)))⟩])
  (.seq (.reg [⟨(some 13), none, .p (.mov (.tmp 0))⟩, ⟨(some 14), none, .p (.len 0 (.tmp 13))⟩, ⟨(some 4), none, .p (.mov (.tmp 14))⟩])
  (.seq (.seq (.reg [⟨(some 15), none, .p (.mov (.tmp 4))⟩, ⟨(some 16), none, .p (.bin .lss (.tmp 15) (.const (.int .i64 1)))⟩])
  (.cond (.tmp 16) (.seq (.reg [⟨(some 2), none, .p (.mov (.const (.int .i32 65533)))⟩, ⟨(some 3), none, .p (.mov (.const (.int .i64 0)))⟩])
  .ret) .skip))
  (.seq (.reg [⟨(some 17), none, .p (.mov (.tmp 0))⟩, ⟨(some 18), none, .p (.idxs (.tmp 17) (.const (.int .i64 0)))⟩, ⟨(some 5), none, .p (.mov (.tmp 18))⟩])
  (.seq (.reg [⟨(some 19), none, .p (.mov (.tmp 5))⟩, ⟨(some 20), none, .p (.iada 256 1 (.global 2) (.tmp 19))⟩, ⟨(some 21), none, .p (.ld none (.tmp 20))⟩, ⟨(some 6), none, .p (.mov (.tmp 21))⟩])
  (.seq (.seq (.reg [⟨(some 22), none, .p (.mov (.tmp 6))⟩, ⟨(some 23), none, .p (.bin .geq (.tmp 22) (.const (.int .u8 240)))⟩])
  (.cond (.tmp 23) (.seq (.reg [⟨(some 24), none, .p (.mov (.tmp 6))⟩, ⟨(some 25), none, .p (.cvt .i32 (.tmp 24))⟩, ⟨(some 26), none, .p (.bin .shl (.tmp 25) (.const (.int .u64 31)))⟩, ⟨(some 27), none, .p (.bin .shr (.tmp 26) (.const (.int .u64 31)))⟩, ⟨(some 7), none, .p (.mov (.tmp 27))⟩])
  (.seq (.reg [⟨(some 28), none, .p (.mov (.tmp 0))⟩, ⟨(some 29), none, .p (.idxs (.tmp 28) (.const (.int .i64 0)))⟩, ⟨(some 30), none, .p (.cvt .i32 (.tmp 29))⟩, ⟨(some 31), none, .p (.mov (.tmp 7))⟩, ⟨(some 32), none, .p (.bin .andNot (.tmp 30) (.tmp 31))⟩, ⟨(some 33), none, .p (.mov (.tmp 7))⟩, ⟨(some 34), none, .p (.bin .and (.const (.int .i32 65533)) (.tmp 33))⟩, ⟨(some 35), none, .p (.bin .or (.tmp 32) (.tmp 34))⟩, ⟨(some 2), none, .p (.mov (.tmp 35))⟩, ⟨(some 3), none, .p (.mov (.const (.int .i64 1)))⟩])
  .ret)) .skip))
  (.seq (.reg [⟨(some 36), none, .p (.mov (.tmp 6))⟩, ⟨(some 37), none, .p (.bin .and (.tmp 36) (.const (.int .u8 7)))⟩, ⟨(some 38), none, .p (.cvt .i64 (.tmp 37))⟩, ⟨(some 8), none, .p (.mov (.tmp 38))⟩])
  (.seq (.reg [⟨(some 39), none, .p (.mov (.tmp 6))⟩, ⟨(some 40), none, .p (.bin .shr (.tmp 39) (.const (.int .u64 4)))⟩, ⟨(some 41), none, .p (.iada 16 2 (.global 3) (.tmp 40))⟩, ⟨(some 42), none, .p (.ld (some 2) (.tmp 41))⟩, ⟨(some 9), none, .e (.alc [(.int .u8 0), (.int .u8 0)])⟩, ⟨none, none, .e (.st 2 (.tmp 9) (.tmp 42))⟩])
  (.seq (.seq (.reg [⟨(some 43), none, .p (.mov (.tmp 4))⟩, ⟨(some 44), none, .p (.mov (.tmp 8))⟩, ⟨(some 45), none, .p (.bin .lss (.tmp 43) (.tmp 44))⟩])
  (.cond (.tmp 45) (.seq (.reg [⟨(some 2), none, .p (.mov (.const (.int .i32 65533)))⟩, ⟨(some 3), none, .p (.mov (.const (.int .i64 1)))⟩])
  .ret) .skip))
  (.seq (.reg [⟨(some 46), none, .p (.mov (.tmp 0))⟩, ⟨(some 47), none, .p (.idxs (.tmp 46) (.const (.int .i64 1)))⟩, ⟨(some 10), none, .p (.mov (.tmp 47))⟩])
  (.seq (.seq (.reg [⟨(some 48), none, .p (.mov (.tmp 10))⟩, ⟨(some 49), none, .p (.fad 0 (.tmp 9))⟩, ⟨(some 50), none, .p (.ld none (.tmp 49))⟩, ⟨(some 51), none, .p (.bin .lss (.tmp 48) (.tmp 50))⟩, ⟨(some 52), none, .p (.mov (.tmp 51))⟩, ⟨(some 53), (some (52, false)), .p (.fad 1 (.tmp 9))⟩, ⟨(some 54), (some (52, false)), .p (.ld none (.tmp 53))⟩, ⟨(some 55), (some (52, false)), .p (.mov (.tmp 10))⟩, ⟨(some 56), (some (52, false)), .p (.bin .lss (.tmp 54) (.tmp 55))⟩, ⟨(some 57), none, .p (.pick (.tmp 52) (.const (.bool true)) (.tmp 56))⟩])
  (.cond (.tmp 57) (.seq (.reg [⟨(some 2), none, .p (.mov (.const (.int .i32 65533)))⟩, ⟨(some 3), none, .p (.mov (.const (.int .i64 1)))⟩])
  .ret) .skip))
  (.seq (.seq (.reg [⟨(some 58), none, .p (.mov (.tmp 8))⟩, ⟨(some 59), none, .p (.bin .leq (.tmp 58) (.const (.int .i64 2)))⟩])
  (.cond (.tmp 59) (.seq (.reg [⟨(some 60), none, .p (.mov (.tmp 5))⟩, ⟨(some 61), none, .p (.bin .and (.tmp 60) (.const (.int .u8 31)))⟩, ⟨(some 62), none, .p (.cvt .i32 (.tmp 61))⟩, ⟨(some 63), none, .p (.bin .shl (.tmp 62) (.const (.int .u64 6)))⟩, ⟨(some 64), none, .p (.mov (.tmp 10))⟩, ⟨(some 65), none, .p (.bin .and (.tmp 64) (.const (.int .u8 63)))⟩, ⟨(some 66), none, .p (.cvt .i32 (.tmp 65))⟩, ⟨(some 67), none, .p (.bin .or (.tmp 63) (.tmp 66))⟩, ⟨(some 2), none, .p (.mov (.tmp 67))⟩, ⟨(some 3), none, .p (.mov (.const (.int .i64 2)))⟩])
  .ret) .skip))
  (.seq (.reg [⟨(some 68), none, .p (.mov (.tmp 0))⟩, ⟨(some 69), none, .p (.idxs (.tmp 68) (.const (.int .i64 2)))⟩, ⟨(some 11), none, .p (.mov (.tmp 69))⟩])
  (.seq (.seq (.reg [⟨(some 70), none, .p (.mov (.tmp 11))⟩, ⟨(some 71), none, .p (.bin .lss (.tmp 70) (.const (.int .u8 128)))⟩, ⟨(some 72), none, .p (.mov (.tmp 71))⟩, ⟨(some 73), (some (72, false)), .p (.mov (.tmp 11))⟩, ⟨(some 74), (some (72, false)), .p (.bin .lss (.const (.int .u8 191)) (.tmp 73))⟩, ⟨(some 75), none, .p (.pick (.tmp 72) (.const (.bool true)) (.tmp 74))⟩])
  (.cond (.tmp 75) (.seq (.reg [⟨(some 2), none, .p (.mov (.const (.int .i32 65533)))⟩, ⟨(some 3), none, .p (.mov (.const (.int .i64 1)))⟩])
  .ret) .skip))
  (.seq (.seq (.reg [⟨(some 76), none, .p (.mov (.tmp 8))⟩, ⟨(some 77), none, .p (.bin .leq (.tmp 76) (.const (.int .i64 3)))⟩])
  (.cond (.tmp 77) (.seq (.reg [⟨(some 78), none, .p (.mov (.tmp 5))⟩, ⟨(some 79), none, .p (.bin .and (.tmp 78) (.const (.int .u8 15)))⟩, ⟨(some 80), none, .p (.cvt .i32 (.tmp 79))⟩, ⟨(some 81), none, .p (.bin .shl (.tmp 80) (.const (.int .u64 12)))⟩, ⟨(some 82), none, .p (.mov (.tmp 10))⟩, ⟨(some 83), none, .p (.bin .and (.tmp 82) (.const (.int .u8 63)))⟩, ⟨(some 84), none, .p (.cvt .i32 (.tmp 83))⟩, ⟨(some 85), none, .p (.bin .shl (.tmp 84) (.const (.int .u64 6)))⟩, ⟨(some 86), none, .p (.bin .or (.tmp 81) (.tmp 85))⟩, ⟨(some 87), none, .p (.mov (.tmp 11))⟩, ⟨(some 88), none, .p (.bin .and (.tmp 87) (.const (.int .u8 63)))⟩, ⟨(some 89), none, .p (.cvt .i32 (.tmp 88))⟩, ⟨(some 90), none, .p (.bin .or (.tmp 86) (.tmp 89))⟩, ⟨(some 2), none, .p (.mov (.tmp 90))⟩, ⟨(some 3), none, .p (.mov (.const (.int .i64 3)))⟩])
  .ret) .skip))
  (.seq (.reg [⟨(some 91), none, .p (.mov (.tmp 0))⟩, ⟨(some 92), none, .p (.idxs (.tmp 91) (.const (.int .i64 3)))⟩, ⟨(some 12), none, .p (.mov (.tmp 92))⟩])
  (.seq (.seq (.reg [⟨(some 93), none, .p (.mov (.tmp 12))⟩, ⟨(some 94), none, .p (.bin .lss (.tmp 93) (.const (.int .u8 128)))⟩, ⟨(some 95), none, .p (.mov (.tmp 94))⟩, ⟨(some 96), (some (95, false)), .p (.mov (.tmp 12))⟩, ⟨(some 97), (some (95, false)), .p (.bin .lss (.const (.int .u8 191)) (.tmp 96))⟩, ⟨(some 98), none, .p (.pick (.tmp 95) (.const (.bool true)) (.tmp 97))⟩])
  (.cond (.tmp 98) (.seq (.reg [⟨(some 2), none, .p (.mov (.const (.int .i32 65533)))⟩, ⟨(some 3), none, .p (.mov (.const (.int .i64 1)))⟩])
  .ret) .skip))
  (.seq (.reg [⟨(some 99), none, .p (.mov (.tmp 5))⟩, ⟨(some 100), none, .p (.bin .and (.tmp 99) (.const (.int .u8 7)))⟩, ⟨(some 101), none, .p (.cvt .i32 (.tmp 100))⟩, ⟨(some 102), none, .p (.bin .shl (.tmp 101) (.const (.int .u64 18)))⟩, ⟨(some 103), none, .p (.mov (.tmp 10))⟩, ⟨(some 104), none, .p (.bin .and (.tmp 103) (.const (.int .u8 63)))⟩, ⟨(some 105), none, .p (.cvt .i32 (.tmp 104))⟩, ⟨(some 106), none, .p (.bin .shl (.tmp 105) (.const (.int .u64 12)))⟩, ⟨(some 107), none, .p (.bin .or (.tmp 102) (.tmp 106))⟩, ⟨(some 108), none, .p (.mov (.tmp 11))⟩, ⟨(some 109), none, .p (.bin .and (.tmp 108) (.const (.int .u8 63)))⟩, ⟨(some 110), none, .p (.cvt .i32 (.tmp 109))⟩, ⟨(some 111), none, .p (.bin .shl (.tmp 110) (.const (.int .u64 6)))⟩, ⟨(some 112), none, .p (.bin .or (.tmp 107) (.tmp 111))⟩, ⟨(some 113), none, .p (.mov (.tmp 12))⟩, ⟨(some 114), none, .p (.bin .and (.tmp 113) (.const (.int .u8 63)))⟩, ⟨(some 115), none, .p (.cvt .i32 (.tmp 114))⟩, ⟨(some 116), none, .p (.bin .or (.tmp 112) (.tmp 115))⟩, ⟨(some 2), none, .p (.mov (.tmp 116))⟩, ⟨(some 3), none, .p (.mov (.const (.int .i64 4)))⟩])
  .ret))))))))))))))))))
def rf82 : List RX := [.tmp 2, .tmp 3]
set_option maxRecDepth 100000 in
theorem comp82 : cFn Tryd.prog Tryd.f82 = some (erase cf82, rf82) := by kernel_rfl
end Go.Proofs.YtchpncmmlhfemaaDoor

