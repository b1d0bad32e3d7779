/- The functions of a package in the lifted layer's own small language. Conditions: none. -/
import Derived.Test.YtfhifkcbdpgomaaL20
import Derived.KernelRfl
namespace Go.Proofs.Ytfhifkcbdpgomaa
/-- math bits.Mul64 -/
def cf37 : LC :=
  (.seq (.reg [⟨(some 4), none, .p (.mov (.const (.int .u64 0)))⟩, ⟨(some 5), none, .p (.mov (.const (.int .u64 0)))⟩])
  (.seq (.reg [⟨(some 14), none, .p (.mov (.tmp 0))⟩, ⟨(some 15), none, .p (.bin .and (.tmp 14) (.const (.int .u64 4294967295)))⟩, ⟨(some 6), none, .p (.mov (.tmp 15))⟩])
  (.seq (.reg [⟨(some 16), none, .p (.mov (.tmp 0))⟩, ⟨(some 17), none, .p (.bin .shr (.tmp 16) (.const (.int .u64 32)))⟩, ⟨(some 7), none, .p (.mov (.tmp 17))⟩])
  (.seq (.reg [⟨(some 18), none, .p (.mov (.tmp 1))⟩, ⟨(some 19), none, .p (.bin .and (.tmp 18) (.const (.int .u64 4294967295)))⟩, ⟨(some 8), none, .p (.mov (.tmp 19))⟩])
  (.seq (.reg [⟨(some 20), none, .p (.mov (.tmp 1))⟩, ⟨(some 21), none, .p (.bin .shr (.tmp 20) (.const (.int .u64 32)))⟩, ⟨(some 9), none, .p (.mov (.tmp 21))⟩])
  (.seq (.reg [⟨(some 22), none, .p (.mov (.tmp 6))⟩, ⟨(some 23), none, .p (.mov (.tmp 8))⟩, ⟨(some 24), none, .p (.bin .mul (.tmp 22) (.tmp 23))⟩, ⟨(some 10), none, .p (.mov (.tmp 24))⟩])
  (.seq (.reg [⟨(some 25), none, .p (.mov (.tmp 7))⟩, ⟨(some 26), none, .p (.mov (.tmp 8))⟩, ⟨(some 27), none, .p (.bin .mul (.tmp 25) (.tmp 26))⟩, ⟨(some 28), none, .p (.mov (.tmp 10))⟩, ⟨(some 29), none, .p (.bin .shr (.tmp 28) (.const (.int .u64 32)))⟩, ⟨(some 30), none, .p (.bin .add (.tmp 27) (.tmp 29))⟩, ⟨(some 11), none, .p (.mov (.tmp 30))⟩])
  (.seq (.reg [⟨(some 31), none, .p (.mov (.tmp 11))⟩, ⟨(some 32), none, .p (.bin .and (.tmp 31) (.const (.int .u64 4294967295)))⟩, ⟨(some 12), none, .p (.mov (.tmp 32))⟩])
  (.seq (.reg [⟨(some 33), none, .p (.mov (.tmp 11))⟩, ⟨(some 34), none, .p (.bin .shr (.tmp 33) (.const (.int .u64 32)))⟩, ⟨(some 13), none, .p (.mov (.tmp 34))⟩])
  (.seq (.reg [⟨(some 35), none, .p (.mov (.tmp 12))⟩, ⟨(some 36), none, .p (.mov (.tmp 6))⟩, ⟨(some 37), none, .p (.mov (.tmp 9))⟩, ⟨(some 38), none, .p (.bin .mul (.tmp 36) (.tmp 37))⟩, ⟨(some 39), none, .p (.bin .add (.tmp 35) (.tmp 38))⟩, ⟨(some 12), none, .p (.mov (.tmp 39))⟩])
  (.seq (.reg [⟨(some 40), none, .p (.mov (.tmp 7))⟩, ⟨(some 41), none, .p (.mov (.tmp 9))⟩, ⟨(some 42), none, .p (.bin .mul (.tmp 40) (.tmp 41))⟩, ⟨(some 43), none, .p (.mov (.tmp 13))⟩, ⟨(some 44), none, .p (.bin .add (.tmp 42) (.tmp 43))⟩, ⟨(some 45), none, .p (.mov (.tmp 12))⟩, ⟨(some 46), none, .p (.bin .shr (.tmp 45) (.const (.int .u64 32)))⟩, ⟨(some 47), none, .p (.bin .add (.tmp 44) (.tmp 46))⟩, ⟨(some 4), none, .p (.mov (.tmp 47))⟩])
  (.seq (.reg [⟨(some 48), none, .p (.mov (.tmp 0))⟩, ⟨(some 49), none, .p (.mov (.tmp 1))⟩, ⟨(some 50), none, .p (.bin .mul (.tmp 48) (.tmp 49))⟩, ⟨(some 5), none, .p (.mov (.tmp 50))⟩])
  .ret))))))))))))
def rf37 : List RX := [.tmp 4, .tmp 5]
set_option maxRecDepth 100000 in
theorem comp37 : cFn Try.prog Try.f37 = some (erase cf37, rf37) := by kernel_rfl
def lb45_0 : LC :=
  (.seq (.seq (.reg [⟨(some 102), none, .p (.mov (.tmp 18))⟩, ⟨(some 103), none, .p (.bin .geq (.tmp 102) (.const (.int .u64 4294967296)))⟩, ⟨(some 104), none, .p (.mov (.tmp 103))⟩, ⟨(some 105), (some (104, false)), .p (.mov (.tmp 18))⟩, ⟨(some 106), (some (104, false)), .p (.mov (.tmp 10))⟩, ⟨(some 107), (some (104, false)), .p (.bin .mul (.tmp 105) (.tmp 106))⟩, ⟨(some 108), (some (104, false)), .p (.mov (.tmp 16))⟩, ⟨(some 109), (some (104, false)), .p (.bin .mul (.const (.int .u64 4294967296)) (.tmp 108))⟩, ⟨(some 110), (some (104, false)), .p (.mov (.tmp 14))⟩, ⟨(some 111), (some (104, false)), .p (.bin .add (.tmp 109) (.tmp 110))⟩, ⟨(some 112), (some (104, false)), .p (.bin .gtr (.tmp 107) (.tmp 111))⟩, ⟨(some 113), none, .p (.pick (.tmp 104) (.const (.bool true)) (.tmp 112))⟩])
  (.cond (.tmp 113) .skip (.exit 2)))
  (.block 3
  (.seq (.reg [⟨(some 114), none, .p (.mov (.tmp 18))⟩, ⟨(some 115), none, .p (.bin .sub (.tmp 114) (.const (.int .u64 1)))⟩, ⟨(some 18), none, .p (.mov (.tmp 115))⟩])
  (.seq (.reg [⟨(some 116), none, .p (.mov (.tmp 16))⟩, ⟨(some 117), none, .p (.mov (.tmp 9))⟩, ⟨(some 118), none, .p (.bin .add (.tmp 116) (.tmp 117))⟩, ⟨(some 16), none, .p (.mov (.tmp 118))⟩])
  (.seq (.reg [⟨(some 119), none, .p (.mov (.tmp 16))⟩, ⟨(some 120), none, .p (.bin .geq (.tmp 119) (.const (.int .u64 4294967296)))⟩])
  (.cond (.tmp 120) (.exit 2) .skip))))))
def lb45_1 : LC :=
  (.seq (.seq (.reg [⟨(some 67), none, .p (.mov (.tmp 15))⟩, ⟨(some 68), none, .p (.bin .geq (.tmp 67) (.const (.int .u64 4294967296)))⟩, ⟨(some 69), none, .p (.mov (.tmp 68))⟩, ⟨(some 70), (some (69, false)), .p (.mov (.tmp 15))⟩, ⟨(some 71), (some (69, false)), .p (.mov (.tmp 10))⟩, ⟨(some 72), (some (69, false)), .p (.bin .mul (.tmp 70) (.tmp 71))⟩, ⟨(some 73), (some (69, false)), .p (.mov (.tmp 16))⟩, ⟨(some 74), (some (69, false)), .p (.bin .mul (.const (.int .u64 4294967296)) (.tmp 73))⟩, ⟨(some 75), (some (69, false)), .p (.mov (.tmp 13))⟩, ⟨(some 76), (some (69, false)), .p (.bin .add (.tmp 74) (.tmp 75))⟩, ⟨(some 77), (some (69, false)), .p (.bin .gtr (.tmp 72) (.tmp 76))⟩, ⟨(some 78), none, .p (.pick (.tmp 69) (.const (.bool true)) (.tmp 77))⟩])
  (.cond (.tmp 78) .skip (.exit 0)))
  (.block 1
  (.seq (.reg [⟨(some 79), none, .p (.mov (.tmp 15))⟩, ⟨(some 80), none, .p (.bin .sub (.tmp 79) (.const (.int .u64 1)))⟩, ⟨(some 15), none, .p (.mov (.tmp 80))⟩])
  (.seq (.reg [⟨(some 81), none, .p (.mov (.tmp 16))⟩, ⟨(some 82), none, .p (.mov (.tmp 9))⟩, ⟨(some 83), none, .p (.bin .add (.tmp 81) (.tmp 82))⟩, ⟨(some 16), none, .p (.mov (.tmp 83))⟩])
  (.seq (.reg [⟨(some 84), none, .p (.mov (.tmp 16))⟩, ⟨(some 85), none, .p (.bin .geq (.tmp 84) (.const (.int .u64 4294967296)))⟩])
  (.cond (.tmp 85) (.exit 0) .skip))))))
/-- math bits.Div64 -/
def cf45 : LC :=
  (.seq (.reg [⟨(some 6), none, .p (.mov (.const (.int .u64 0)))⟩, ⟨(some 7), none, .p (.mov (.const (.int .u64 0)))⟩])
  (.seq (.seq (.reg [⟨(some 19), none, .p (.mov (.tmp 2))⟩, ⟨(some 20), none, .p (.bin .eql (.tmp 19) (.const (.int .u64 0)))⟩])
  (.cond (.tmp 20) (.reg [⟨(some 21), none, .p (.ld none (.global 0))⟩, ⟨none, none, .e (.bad)⟩]) .skip))
  (.seq (.seq (.reg [⟨(some 22), none, .p (.mov (.tmp 2))⟩, ⟨(some 23), none, .p (.mov (.tmp 0))⟩, ⟨(some 24), none, .p (.bin .leq (.tmp 22) (.tmp 23))⟩])
  (.cond (.tmp 24) (.reg [⟨(some 25), none, .p (.ld none (.global 1))⟩, ⟨none, none, .e (.bad)⟩]) .skip))
  (.seq (.seq (.reg [⟨(some 26), none, .p (.mov (.tmp 0))⟩, ⟨(some 27), none, .p (.bin .eql (.tmp 26) (.const (.int .u64 0)))⟩])
  (.cond (.tmp 27) (.seq (.dreg [⟨(some 28), none, .p (.mov (.tmp 1))⟩, ⟨(some 29), none, .p (.mov (.tmp 2))⟩, ⟨(some 30), none, .p (.bin .quo (.tmp 28) (.tmp 29))⟩, ⟨(some 31), none, .p (.mov (.tmp 1))⟩, ⟨(some 32), none, .p (.mov (.tmp 2))⟩, ⟨(some 33), none, .p (.bin .rem (.tmp 31) (.tmp 32))⟩, ⟨(some 6), none, .p (.mov (.tmp 30))⟩] [[⟨(some 7), none, .p (.mov (.tmp 33))⟩]])
  .ret) .skip))
  (.seq (.reg [⟨(some 34), none, .p (.mov (.tmp 2))⟩, ⟨(some 35), none, .e (.call 48 [(.tmp 34)])⟩, ⟨(some 36), none, .p (.cvt .u64 (.tmp 35))⟩, ⟨(some 8), none, .p (.mov (.tmp 36))⟩])
  (.seq (.reg [⟨(some 37), none, .p (.mov (.tmp 2))⟩, ⟨(some 38), none, .p (.mov (.tmp 8))⟩, ⟨(some 39), none, .p (.bin .shl (.tmp 37) (.tmp 38))⟩, ⟨(some 2), none, .p (.mov (.tmp 39))⟩])
  (.seq (.reg [⟨(some 40), none, .p (.mov (.tmp 2))⟩, ⟨(some 41), none, .p (.bin .shr (.tmp 40) (.const (.int .u64 32)))⟩, ⟨(some 9), none, .p (.mov (.tmp 41))⟩])
  (.seq (.reg [⟨(some 42), none, .p (.mov (.tmp 2))⟩, ⟨(some 43), none, .p (.bin .and (.tmp 42) (.const (.int .u64 4294967295)))⟩, ⟨(some 10), none, .p (.mov (.tmp 43))⟩])
  (.seq (.reg [⟨(some 44), none, .p (.mov (.tmp 0))⟩, ⟨(some 45), none, .p (.mov (.tmp 8))⟩, ⟨(some 46), none, .p (.bin .shl (.tmp 44) (.tmp 45))⟩, ⟨(some 47), none, .p (.mov (.tmp 1))⟩, ⟨(some 48), none, .p (.mov (.tmp 8))⟩, ⟨(some 49), none, .p (.bin .sub (.const (.int .u64 64)) (.tmp 48))⟩, ⟨(some 50), none, .p (.bin .shr (.tmp 47) (.tmp 49))⟩, ⟨(some 51), none, .p (.bin .or (.tmp 46) (.tmp 50))⟩, ⟨(some 11), none, .p (.mov (.tmp 51))⟩])
  (.seq (.reg [⟨(some 52), none, .p (.mov (.tmp 1))⟩, ⟨(some 53), none, .p (.mov (.tmp 8))⟩, ⟨(some 54), none, .p (.bin .shl (.tmp 52) (.tmp 53))⟩, ⟨(some 12), none, .p (.mov (.tmp 54))⟩])
  (.seq (.reg [⟨(some 55), none, .p (.mov (.tmp 12))⟩, ⟨(some 56), none, .p (.bin .shr (.tmp 55) (.const (.int .u64 32)))⟩, ⟨(some 13), none, .p (.mov (.tmp 56))⟩])
  (.seq (.reg [⟨(some 57), none, .p (.mov (.tmp 12))⟩, ⟨(some 58), none, .p (.bin .and (.tmp 57) (.const (.int .u64 4294967295)))⟩, ⟨(some 14), none, .p (.mov (.tmp 58))⟩])
  (.seq (.reg [⟨(some 59), none, .p (.mov (.tmp 11))⟩, ⟨(some 60), none, .p (.mov (.tmp 9))⟩, ⟨(some 61), none, .p (.bin .quo (.tmp 59) (.tmp 60))⟩, ⟨(some 15), none, .p (.mov (.tmp 61))⟩])
  (.seq (.reg [⟨(some 62), none, .p (.mov (.tmp 11))⟩, ⟨(some 63), none, .p (.mov (.tmp 15))⟩, ⟨(some 64), none, .p (.mov (.tmp 9))⟩, ⟨(some 65), none, .p (.bin .mul (.tmp 63) (.tmp 64))⟩, ⟨(some 66), none, .p (.bin .sub (.tmp 62) (.tmp 65))⟩, ⟨(some 16), none, .p (.mov (.tmp 66))⟩])
  (.seqj (.block 0
  (.loop lb45_1))
  (.seq (.reg [⟨(some 86), none, .p (.mov (.tmp 11))⟩, ⟨(some 87), none, .p (.bin .mul (.tmp 86) (.const (.int .u64 4294967296)))⟩, ⟨(some 88), none, .p (.mov (.tmp 13))⟩, ⟨(some 89), none, .p (.bin .add (.tmp 87) (.tmp 88))⟩, ⟨(some 90), none, .p (.mov (.tmp 15))⟩, ⟨(some 91), none, .p (.mov (.tmp 2))⟩, ⟨(some 92), none, .p (.bin .mul (.tmp 90) (.tmp 91))⟩, ⟨(some 93), none, .p (.bin .sub (.tmp 89) (.tmp 92))⟩, ⟨(some 17), none, .p (.mov (.tmp 93))⟩])
  (.seq (.reg [⟨(some 94), none, .p (.mov (.tmp 17))⟩, ⟨(some 95), none, .p (.mov (.tmp 9))⟩, ⟨(some 96), none, .p (.bin .quo (.tmp 94) (.tmp 95))⟩, ⟨(some 18), none, .p (.mov (.tmp 96))⟩])
  (.seq (.reg [⟨(some 97), none, .p (.mov (.tmp 17))⟩, ⟨(some 98), none, .p (.mov (.tmp 18))⟩, ⟨(some 99), none, .p (.mov (.tmp 9))⟩, ⟨(some 100), none, .p (.bin .mul (.tmp 98) (.tmp 99))⟩, ⟨(some 101), none, .p (.bin .sub (.tmp 97) (.tmp 100))⟩, ⟨(some 16), none, .p (.mov (.tmp 101))⟩])
  (.seq (.block 2
  (.loop lb45_0))
  (.seq (.reg [⟨(some 121), none, .p (.mov (.tmp 15))⟩, ⟨(some 122), none, .p (.bin .mul (.tmp 121) (.const (.int .u64 4294967296)))⟩, ⟨(some 123), none, .p (.mov (.tmp 18))⟩, ⟨(some 124), none, .p (.bin .add (.tmp 122) (.tmp 123))⟩, ⟨(some 125), none, .p (.mov (.tmp 17))⟩, ⟨(some 126), none, .p (.bin .mul (.tmp 125) (.const (.int .u64 4294967296)))⟩, ⟨(some 127), none, .p (.mov (.tmp 14))⟩, ⟨(some 128), none, .p (.bin .add (.tmp 126) (.tmp 127))⟩, ⟨(some 129), none, .p (.mov (.tmp 18))⟩, ⟨(some 130), none, .p (.mov (.tmp 2))⟩, ⟨(some 131), none, .p (.bin .mul (.tmp 129) (.tmp 130))⟩, ⟨(some 132), none, .p (.bin .sub (.tmp 128) (.tmp 131))⟩, ⟨(some 133), none, .p (.mov (.tmp 8))⟩, ⟨(some 134), none, .p (.bin .shr (.tmp 132) (.tmp 133))⟩, ⟨(some 6), none, .p (.mov (.tmp 124))⟩, ⟨(some 7), none, .p (.mov (.tmp 134))⟩])
  .ret))))))))))))))))))))
def rf45 : List RX := [.tmp 6, .tmp 7]
set_option maxRecDepth 100000 in
theorem comp45 : cFn Try.prog Try.f45 = some (erase cf45, rf45) := by kernel_rfl
/-- math bits.LeadingZeros64 -/
def cf48 : LC :=
  (.seq (.reg [⟨(some 2), none, .p (.mov (.const (.int .i64 0)))⟩])
  (.seq (.reg [⟨(some 3), none, .p (.mov (.tmp 0))⟩, ⟨(some 4), none, .e (.call 49 [(.tmp 3)])⟩, ⟨(some 5), none, .p (.bin .sub (.const (.int .i64 64)) (.tmp 4))⟩, ⟨(some 2), none, .p (.mov (.tmp 5))⟩])
  .ret))
def rf48 : List RX := [.tmp 2]
set_option maxRecDepth 100000 in
theorem comp48 : cFn Try.prog Try.f48 = some (erase cf48, rf48) := by kernel_rfl
/-- math bits.Len64 -/
def cf49 : LC :=
  (.seq (.reg [⟨(some 2), none, .p (.mov (.const (.int .i64 0)))⟩])
  (.seq (.seq (.reg [⟨(some 3), none, .p (.mov (.tmp 0))⟩, ⟨(some 4), none, .p (.bin .geq (.tmp 3) (.const (.int .u64 4294967296)))⟩])
  (.cond (.tmp 4) (.seq (.reg [⟨(some 5), none, .p (.mov (.tmp 0))⟩, ⟨(some 6), none, .p (.bin .shr (.tmp 5) (.const (.int .u64 32)))⟩, ⟨(some 0), none, .p (.mov (.tmp 6))⟩])
  (.reg [⟨(some 2), none, .p (.mov (.const (.int .i64 32)))⟩])) .skip))
  (.seq (.seq (.reg [⟨(some 7), none, .p (.mov (.tmp 0))⟩, ⟨(some 8), none, .p (.bin .geq (.tmp 7) (.const (.int .u64 65536)))⟩])
  (.cond (.tmp 8) (.seq (.reg [⟨(some 9), none, .p (.mov (.tmp 0))⟩, ⟨(some 10), none, .p (.bin .shr (.tmp 9) (.const (.int .u64 16)))⟩, ⟨(some 0), none, .p (.mov (.tmp 10))⟩])
  (.reg [⟨(some 11), none, .p (.mov (.tmp 2))⟩, ⟨(some 12), none, .p (.bin .add (.tmp 11) (.const (.int .i64 16)))⟩, ⟨(some 2), none, .p (.mov (.tmp 12))⟩])) .skip))
  (.seq (.seq (.reg [⟨(some 13), none, .p (.mov (.tmp 0))⟩, ⟨(some 14), none, .p (.bin .geq (.tmp 13) (.const (.int .u64 256)))⟩])
  (.cond (.tmp 14) (.seq (.reg [⟨(some 15), none, .p (.mov (.tmp 0))⟩, ⟨(some 16), none, .p (.bin .shr (.tmp 15) (.const (.int .u64 8)))⟩, ⟨(some 0), none, .p (.mov (.tmp 16))⟩])
  (.reg [⟨(some 17), none, .p (.mov (.tmp 2))⟩, ⟨(some 18), none, .p (.bin .add (.tmp 17) (.const (.int .i64 8)))⟩, ⟨(some 2), none, .p (.mov (.tmp 18))⟩])) .skip))
  (.seq (.reg [⟨(some 19), none, .p (.mov (.tmp 2))⟩, ⟨(some 20), none, .p (.mov (.tmp 0))⟩, ⟨(some 21), none, .p (.cvt .u8 (.tmp 20))⟩, ⟨(some 22), none, .p (.idxs (.const (.string ⟨#[0, 1, 2, 2, 3, 3, 3, 3, 4, 4, 4, 4, 4, 4, 4, 4, 5, 5, 5, 5, 5, 5, 5, 5, 5, 5, 5, 5, 5, 5, 5, 5, 6, 6, 6, 6, 6, 6, 6, 6, 6, 6, 6, 6, 6, 6, 6, 6, 6, 6, 6, 6, 6, 6, 6, 6, 6, 6, 6, 6, 6, 6, 6, 6, 7, 7, 7, 7, 7, 7, 7, 7, 7, 7, 7, 7, 7, 7, 7, 7, 7, 7, 7, 7, 7, 7, 7, 7, 7, 7, 7, 7, 7, 7, 7, 7, 7, 7, 7, 7, 7, 7, 7, 7, 7, 7, 7, 7, 7, 7, 7, 7, 7, 7, 7, 7, 7, 7, 7, 7, 7, 7, 7, 7, 7, 7, 7, 7, 8, 8, 8, 8, 8, 8, 8, 8, 8, 8, 8, 8, 8, 8, 8, 8, 8, 8, 8, 8, 8, 8, 8, 8, 8, 8, 8, 8, 8, 8, 8, 8, 8, 8, 8, 8, 8, 8, 8, 8, 8, 8, 8, 8, 8, 8, 8, 8, 8, 8, 8, 8, 8, 8, 8, 8, 8, 8, 8, 8, 8, 8, 8, 8, 8, 8, 8, 8, 8, 8, 8, 8, 8, 8, 8, 8, 8, 8, 8, 8, 8, 8, 8, 8, 8, 8, 8, 8, 8, 8, 8, 8, 8, 8, 8, 8, 8, 8, 8, 8, 8, 8, 8, 8, 8, 8, 8, 8, 8, 8, 8, 8, 8, 8, 8, 8, 8, 8, 8, 8, 8, 8, 8, 8, 8, 8, 8, 8]⟩)) (.tmp 21))⟩, ⟨(some 23), none, .p (.cvt .i64 (.tmp 22))⟩, ⟨(some 24), none, .p (.bin .add (.tmp 19) (.tmp 23))⟩, ⟨(some 2), none, .p (.mov (.tmp 24))⟩])
  .ret)))))
def rf49 : List RX := [.tmp 2]
set_option maxRecDepth 100000 in
theorem comp49 : cFn Try.prog Try.f49 = some (erase cf49, rf49) := by kernel_rfl
end Go.Proofs.Ytfhifkcbdpgomaa
