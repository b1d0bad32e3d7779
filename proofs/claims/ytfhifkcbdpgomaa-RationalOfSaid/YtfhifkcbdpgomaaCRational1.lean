/- The functions of a package in the lifted layer's own small language. Conditions: none. -/
import Derived.Test.YtfhifkcbdpgomaaL20
import Derived.KernelRfl
namespace Go.Proofs.Ytfhifkcbdpgomaa
/-- fairlink rational.Add -/
def cf11 : LC :=
  (.seq (.reg [⟨(some 2), none, .e (.box (.tmp 0))⟩, ⟨(some 3), none, .e (.box (.tmp 1))⟩, ⟨(some 4), none, .e (.alc [(.int .i64 0), (.int .i64 0)])⟩, ⟨(some 5), none, .p (.mov (.const (.int .i64 0)))⟩])
  (.seq (.seq (.reg [⟨(some 17), none, .p (.ld (some 2) (.tmp 2))⟩, ⟨(some 18), none, .e (.call 15 [(.tmp 17)])⟩, ⟨(some 19), none, .p (.un .not (.tmp 18))⟩, ⟨(some 20), none, .p (.mov (.tmp 19))⟩, ⟨(some 21), (some (20, false)), .p (.ld (some 2) (.tmp 3))⟩, ⟨(some 22), (some (20, false)), .e (.call 15 [(.tmp 21)])⟩, ⟨(some 23), (some (20, false)), .p (.un .not (.tmp 22))⟩, ⟨(some 24), none, .p (.pick (.tmp 20) (.const (.bool true)) (.tmp 23))⟩])
  (.cond (.tmp 24) (.seq (.reg [⟨(some 25), none, .p (.bld [(.int .i64 0), (.int .i64 0)] [])⟩, ⟨none, none, .e (.st 2 (.tmp 4) (.tmp 25))⟩, ⟨(some 5), none, .p (.mov (.const (.int .i64 1)))⟩])
  .ret) .skip))
  (.seq (.dreg [⟨(some 26), none, .p (.ld (some 2) (.tmp 2))⟩, ⟨(some 27), none, .e (.call 31 [(.tmp 26)])⟩, ⟨(some 28), none, .p (.ld (some 2) (.tmp 3))⟩, ⟨(some 29), none, .e (.call 31 [(.tmp 28)])⟩] [[⟨none, none, .e (.st 2 (.tmp 2) (.tmp 27))⟩, ⟨none, none, .e (.st 2 (.tmp 3) (.tmp 29))⟩]])
  (.seq (.dreg [⟨(some 30), none, .p (.fad 1 (.tmp 2))⟩, ⟨(some 31), none, .p (.ld none (.tmp 30))⟩, ⟨(some 32), none, .e (.call 33 [(.tmp 31)])⟩, ⟨(some 33), none, .p (.fad 1 (.tmp 3))⟩, ⟨(some 34), none, .p (.ld none (.tmp 33))⟩, ⟨(some 35), none, .e (.call 33 [(.tmp 34)])⟩, ⟨(some 36), none, .e (.call 32 [(.tmp 32), (.tmp 35)])⟩] [[⟨(some 6), none, .p (.mov (.tmp 36))⟩]])
  (.seq (.dreg [⟨(some 37), none, .p (.fad 1 (.tmp 2))⟩, ⟨(some 38), none, .p (.ld none (.tmp 37))⟩, ⟨(some 39), none, .e (.call 33 [(.tmp 38)])⟩, ⟨(some 40), none, .p (.mov (.tmp 6))⟩, ⟨(some 41), none, .p (.bin .quo (.tmp 39) (.tmp 40))⟩, ⟨(some 42), none, .p (.fad 1 (.tmp 3))⟩, ⟨(some 43), none, .p (.ld none (.tmp 42))⟩, ⟨(some 44), none, .e (.call 33 [(.tmp 43)])⟩, ⟨(some 45), none, .p (.mov (.tmp 6))⟩, ⟨(some 46), none, .p (.bin .quo (.tmp 44) (.tmp 45))⟩, ⟨(some 7), none, .p (.mov (.tmp 41))⟩] [[⟨(some 8), none, .p (.mov (.tmp 46))⟩]])
  (.seq (.dreg [⟨(some 47), none, .p (.fad 0 (.tmp 2))⟩, ⟨(some 48), none, .p (.ld none (.tmp 47))⟩, ⟨(some 49), none, .p (.mov (.tmp 8))⟩, ⟨(some 50), none, .e (.ecl 34 [(.tmp 48), (.tmp 49)])⟩, ⟨(some 51), none, .p (.fad 0 (.tmp 3))⟩, ⟨(some 52), none, .p (.ld none (.tmp 51))⟩, ⟨(some 53), none, .p (.mov (.tmp 7))⟩, ⟨(some 54), none, .e (.ecl 34 [(.tmp 52), (.tmp 53)])⟩, ⟨(some 55), none, .e (.ecl 35 [(.tmp 50), (.tmp 54)])⟩] [[⟨(some 9), none, .e (.alc [(.bool false), (.int .u64 0), (.int .u64 0)])⟩, ⟨none, none, .e (.st 3 (.tmp 9) (.tmp 55))⟩]])
  (.seq (.seq (.reg [⟨(some 56), none, .p (.fad 1 (.tmp 9))⟩, ⟨(some 57), none, .p (.ld none (.tmp 56))⟩, ⟨(some 58), none, .p (.bin .eql (.tmp 57) (.const (.int .u64 0)))⟩, ⟨(some 59), none, .p (.mov (.tmp 58))⟩, ⟨(some 60), (some (59, true)), .p (.fad 2 (.tmp 9))⟩, ⟨(some 61), (some (59, true)), .p (.ld none (.tmp 60))⟩, ⟨(some 62), (some (59, true)), .p (.bin .eql (.tmp 61) (.const (.int .u64 0)))⟩, ⟨(some 63), none, .p (.pick (.tmp 59) (.tmp 62) (.const (.bool false)))⟩])
  (.cond (.tmp 63) (.seq (.reg [⟨(some 64), none, .p (.bld [(.int .i64 0), (.int .i64 0)] [(0, 1, (.const (.int .i64 0))), (1, 1, (.const (.int .i64 1)))])⟩, ⟨none, none, .e (.st 2 (.tmp 4) (.tmp 64))⟩, ⟨(some 5), none, .p (.mov (.const (.int .i64 0)))⟩])
  .ret) .skip))
  (.seq (.reg [⟨(some 66), none, .p (.ld (some 3) (.tmp 9))⟩, ⟨(some 67), none, .p (.mov (.tmp 6))⟩, ⟨(some 68), none, .e (.call 36 [(.tmp 66), (.tmp 67)])⟩, ⟨(some 65), none, .p (.mov (.tmp 68))⟩, ⟨(some 69), none, .p (.ext (.tmp 65) 0)⟩, ⟨(some 70), none, .p (.ext (.tmp 65) 1)⟩, ⟨(some 10), none, .e (.alc [(.bool false), (.int .u64 0), (.int .u64 0)])⟩, ⟨none, none, .e (.st 3 (.tmp 10) (.tmp 69))⟩, ⟨(some 11), none, .p (.mov (.tmp 70))⟩])
  (.seq (.reg [⟨(some 71), none, .p (.mov (.tmp 6))⟩, ⟨(some 72), none, .p (.mov (.tmp 11))⟩, ⟨(some 73), none, .e (.call 32 [(.tmp 71), (.tmp 72)])⟩, ⟨(some 12), none, .p (.mov (.tmp 73))⟩])
  (.seq (.reg [⟨(some 75), none, .p (.ld (some 3) (.tmp 9))⟩, ⟨(some 76), none, .p (.mov (.tmp 12))⟩, ⟨(some 77), none, .e (.call 36 [(.tmp 75), (.tmp 76)])⟩, ⟨(some 74), none, .p (.mov (.tmp 77))⟩, ⟨(some 78), none, .p (.ext (.tmp 74) 0)⟩, ⟨(some 79), none, .p (.ext (.tmp 74) 1)⟩, ⟨(some 13), none, .e (.alc [(.bool false), (.int .u64 0), (.int .u64 0)])⟩, ⟨none, none, .e (.st 3 (.tmp 13) (.tmp 78))⟩, ⟨(some 14), none, .p (.mov (.tmp 79))⟩])
  (.seq (.reg [⟨(some 81), none, .p (.mov (.tmp 7))⟩, ⟨(some 82), none, .p (.fad 1 (.tmp 3))⟩, ⟨(some 83), none, .p (.ld none (.tmp 82))⟩, ⟨(some 84), none, .e (.call 33 [(.tmp 83)])⟩, ⟨(some 85), none, .p (.mov (.tmp 12))⟩, ⟨(some 86), none, .p (.bin .quo (.tmp 84) (.tmp 85))⟩, ⟨(some 87), none, .e (.call 37 [(.tmp 81), (.tmp 86)])⟩, ⟨(some 80), none, .p (.mov (.tmp 87))⟩, ⟨(some 88), none, .p (.ext (.tmp 80) 0)⟩, ⟨(some 89), none, .p (.ext (.tmp 80) 1)⟩, ⟨(some 15), none, .p (.mov (.tmp 88))⟩, ⟨(some 16), none, .p (.mov (.tmp 89))⟩])
  (.seq (.reg [⟨(some 90), none, .p (.ld (some 3) (.tmp 13))⟩, ⟨(some 91), none, .p (.mov (.tmp 15))⟩, ⟨(some 92), none, .p (.mov (.tmp 16))⟩, ⟨(some 93), none, .p (.bld [(.bool false), (.int .u64 0), (.int .u64 0)] [(0, 1, (.const (.bool false))), (1, 1, (.tmp 91)), (2, 1, (.tmp 92))])⟩, ⟨(some 94), none, .e (.call 38 [(.tmp 90), (.tmp 93)])⟩, ⟨(some 95), none, .p (.ext (.tmp 94) 0)⟩, ⟨(some 96), none, .p (.ext (.tmp 94) 1)⟩, ⟨none, none, .e (.st 2 (.tmp 4) (.tmp 95))⟩, ⟨(some 5), none, .p (.mov (.tmp 96))⟩])
  .ret))))))))))))
def rf11 : List RX := [.cell 4 (some 2), .tmp 5]
set_option maxRecDepth 100000 in
theorem comp11 : cFn Try.prog Try.f11 = some (erase cf11, rf11) := by kernel_rfl
/-- fairlink rational.Mul -/
def cf12 : LC :=
  (.seq (.reg [⟨(some 2), none, .e (.box (.tmp 0))⟩, ⟨(some 3), none, .e (.box (.tmp 1))⟩, ⟨(some 4), none, .e (.alc [(.int .i64 0), (.int .i64 0)])⟩, ⟨(some 5), none, .p (.mov (.const (.int .i64 0)))⟩])
  (.seq (.seq (.reg [⟨(some 11), none, .p (.ld (some 2) (.tmp 2))⟩, ⟨(some 12), none, .e (.call 15 [(.tmp 11)])⟩, ⟨(some 13), none, .p (.un .not (.tmp 12))⟩, ⟨(some 14), none, .p (.mov (.tmp 13))⟩, ⟨(some 15), (some (14, false)), .p (.ld (some 2) (.tmp 3))⟩, ⟨(some 16), (some (14, false)), .e (.call 15 [(.tmp 15)])⟩, ⟨(some 17), (some (14, false)), .p (.un .not (.tmp 16))⟩, ⟨(some 18), none, .p (.pick (.tmp 14) (.const (.bool true)) (.tmp 17))⟩])
  (.cond (.tmp 18) (.seq (.reg [⟨(some 19), none, .p (.bld [(.int .i64 0), (.int .i64 0)] [])⟩, ⟨none, none, .e (.st 2 (.tmp 4) (.tmp 19))⟩, ⟨(some 5), none, .p (.mov (.const (.int .i64 1)))⟩])
  .ret) .skip))
  (.seq (.dreg [⟨(some 20), none, .p (.ld (some 2) (.tmp 2))⟩, ⟨(some 21), none, .e (.call 31 [(.tmp 20)])⟩, ⟨(some 22), none, .p (.ld (some 2) (.tmp 3))⟩, ⟨(some 23), none, .e (.call 31 [(.tmp 22)])⟩] [[⟨none, none, .e (.st 2 (.tmp 2) (.tmp 21))⟩, ⟨none, none, .e (.st 2 (.tmp 3) (.tmp 23))⟩]])
  (.seq (.seq (.reg [⟨(some 24), none, .p (.fad 0 (.tmp 2))⟩, ⟨(some 25), none, .p (.ld none (.tmp 24))⟩, ⟨(some 26), none, .p (.bin .eql (.tmp 25) (.const (.int .i64 0)))⟩, ⟨(some 27), none, .p (.mov (.tmp 26))⟩, ⟨(some 28), (some (27, false)), .p (.fad 0 (.tmp 3))⟩, ⟨(some 29), (some (27, false)), .p (.ld none (.tmp 28))⟩, ⟨(some 30), (some (27, false)), .p (.bin .eql (.tmp 29) (.const (.int .i64 0)))⟩, ⟨(some 31), none, .p (.pick (.tmp 27) (.const (.bool true)) (.tmp 30))⟩])
  (.cond (.tmp 31) (.seq (.reg [⟨(some 32), none, .p (.bld [(.int .i64 0), (.int .i64 0)] [(0, 1, (.const (.int .i64 0))), (1, 1, (.const (.int .i64 1)))])⟩, ⟨none, none, .e (.st 2 (.tmp 4) (.tmp 32))⟩, ⟨(some 5), none, .p (.mov (.const (.int .i64 0)))⟩])
  .ret) .skip))
  (.seq (.dreg [⟨(some 33), none, .p (.fad 0 (.tmp 2))⟩, ⟨(some 34), none, .p (.ld none (.tmp 33))⟩, ⟨(some 35), none, .e (.call 33 [(.tmp 34)])⟩, ⟨(some 36), none, .p (.fad 1 (.tmp 3))⟩, ⟨(some 37), none, .p (.ld none (.tmp 36))⟩, ⟨(some 38), none, .e (.call 33 [(.tmp 37)])⟩, ⟨(some 39), none, .e (.call 32 [(.tmp 35), (.tmp 38)])⟩] [[⟨(some 6), none, .p (.mov (.tmp 39))⟩]])
  (.seq (.dreg [⟨(some 40), none, .p (.fad 0 (.tmp 3))⟩, ⟨(some 41), none, .p (.ld none (.tmp 40))⟩, ⟨(some 42), none, .e (.call 33 [(.tmp 41)])⟩, ⟨(some 43), none, .p (.fad 1 (.tmp 2))⟩, ⟨(some 44), none, .p (.ld none (.tmp 43))⟩, ⟨(some 45), none, .e (.call 33 [(.tmp 44)])⟩, ⟨(some 46), none, .e (.call 32 [(.tmp 42), (.tmp 45)])⟩] [[⟨(some 7), none, .p (.mov (.tmp 46))⟩]])
  (.seq (.dreg [⟨(some 48), none, .p (.fad 0 (.tmp 2))⟩, ⟨(some 49), none, .p (.ld none (.tmp 48))⟩, ⟨(some 50), none, .e (.call 33 [(.tmp 49)])⟩, ⟨(some 51), none, .p (.mov (.tmp 6))⟩, ⟨(some 52), none, .p (.bin .quo (.tmp 50) (.tmp 51))⟩, ⟨(some 53), none, .p (.fad 0 (.tmp 3))⟩, ⟨(some 54), none, .p (.ld none (.tmp 53))⟩, ⟨(some 55), none, .e (.call 33 [(.tmp 54)])⟩, ⟨(some 56), none, .p (.mov (.tmp 7))⟩, ⟨(some 57), none, .p (.bin .quo (.tmp 55) (.tmp 56))⟩, ⟨(some 58), none, .e (.call 37 [(.tmp 52), (.tmp 57)])⟩, ⟨(some 47), none, .p (.mov (.tmp 58))⟩, ⟨(some 59), none, .p (.ext (.tmp 47) 0)⟩, ⟨(some 60), none, .p (.ext (.tmp 47) 1)⟩, ⟨(some 8), none, .p (.mov (.tmp 59))⟩] [[⟨(some 9), none, .p (.mov (.tmp 60))⟩]])
  (.seq (.reg [⟨(some 61), none, .p (.fad 0 (.tmp 2))⟩, ⟨(some 62), none, .p (.ld none (.tmp 61))⟩, ⟨(some 63), none, .p (.bin .lss (.tmp 62) (.const (.int .i64 0)))⟩, ⟨(some 64), none, .p (.fad 0 (.tmp 3))⟩, ⟨(some 65), none, .p (.ld none (.tmp 64))⟩, ⟨(some 66), none, .p (.bin .lss (.tmp 65) (.const (.int .i64 0)))⟩, ⟨(some 67), none, .p (.binb true (.tmp 63) (.tmp 66))⟩, ⟨(some 68), none, .p (.mov (.tmp 8))⟩, ⟨(some 69), none, .p (.mov (.tmp 9))⟩, ⟨(some 70), none, .p (.bld [(.bool false), (.int .u64 0), (.int .u64 0)] [(0, 1, (.tmp 67)), (1, 1, (.tmp 68)), (2, 1, (.tmp 69))])⟩, ⟨(some 10), none, .e (.alc [(.bool false), (.int .u64 0), (.int .u64 0)])⟩, ⟨none, none, .e (.st 3 (.tmp 10) (.tmp 70))⟩])
  (.seq (.dreg [⟨(some 72), none, .p (.fad 1 (.tmp 2))⟩, ⟨(some 73), none, .p (.ld none (.tmp 72))⟩, ⟨(some 74), none, .e (.call 33 [(.tmp 73)])⟩, ⟨(some 75), none, .p (.mov (.tmp 7))⟩, ⟨(some 76), none, .p (.bin .quo (.tmp 74) (.tmp 75))⟩, ⟨(some 77), none, .p (.fad 1 (.tmp 3))⟩, ⟨(some 78), none, .p (.ld none (.tmp 77))⟩, ⟨(some 79), none, .e (.call 33 [(.tmp 78)])⟩, ⟨(some 80), none, .p (.mov (.tmp 6))⟩, ⟨(some 81), none, .p (.bin .quo (.tmp 79) (.tmp 80))⟩, ⟨(some 82), none, .e (.call 37 [(.tmp 76), (.tmp 81)])⟩, ⟨(some 71), none, .p (.mov (.tmp 82))⟩, ⟨(some 83), none, .p (.ext (.tmp 71) 0)⟩, ⟨(some 84), none, .p (.ext (.tmp 71) 1)⟩, ⟨(some 8), none, .p (.mov (.tmp 83))⟩] [[⟨(some 9), none, .p (.mov (.tmp 84))⟩]])
  (.seq (.reg [⟨(some 85), none, .p (.ld (some 3) (.tmp 10))⟩, ⟨(some 86), none, .p (.mov (.tmp 8))⟩, ⟨(some 87), none, .p (.mov (.tmp 9))⟩, ⟨(some 88), none, .p (.bld [(.bool false), (.int .u64 0), (.int .u64 0)] [(0, 1, (.const (.bool false))), (1, 1, (.tmp 86)), (2, 1, (.tmp 87))])⟩, ⟨(some 89), none, .e (.call 38 [(.tmp 85), (.tmp 88)])⟩, ⟨(some 90), none, .p (.ext (.tmp 89) 0)⟩, ⟨(some 91), none, .p (.ext (.tmp 89) 1)⟩, ⟨none, none, .e (.st 2 (.tmp 4) (.tmp 90))⟩, ⟨(some 5), none, .p (.mov (.tmp 91))⟩])
  .ret))))))))))
def rf12 : List RX := [.cell 4 (some 2), .tmp 5]
set_option maxRecDepth 100000 in
theorem comp12 : cFn Try.prog Try.f12 = some (erase cf12, rf12) := by kernel_rfl
/-- fairlink rational.Sub -/
def cf13 : LC :=
  (.seq (.reg [⟨(some 2), none, .e (.box (.tmp 0))⟩, ⟨(some 3), none, .e (.box (.tmp 1))⟩, ⟨(some 4), none, .e (.alc [(.int .i64 0), (.int .i64 0)])⟩, ⟨(some 5), none, .p (.mov (.const (.int .i64 0)))⟩])
  (.seq (.seq (.reg [⟨(some 6), none, .p (.ld (some 2) (.tmp 2))⟩, ⟨(some 7), none, .e (.call 15 [(.tmp 6)])⟩, ⟨(some 8), none, .p (.un .not (.tmp 7))⟩, ⟨(some 9), none, .p (.mov (.tmp 8))⟩, ⟨(some 10), (some (9, false)), .p (.ld (some 2) (.tmp 3))⟩, ⟨(some 11), (some (9, false)), .e (.call 15 [(.tmp 10)])⟩, ⟨(some 12), (some (9, false)), .p (.un .not (.tmp 11))⟩, ⟨(some 13), none, .p (.pick (.tmp 9) (.const (.bool true)) (.tmp 12))⟩])
  (.cond (.tmp 13) (.seq (.reg [⟨(some 14), none, .p (.bld [(.int .i64 0), (.int .i64 0)] [])⟩, ⟨none, none, .e (.st 2 (.tmp 4) (.tmp 14))⟩, ⟨(some 5), none, .p (.mov (.const (.int .i64 1)))⟩])
  .ret) .skip))
  (.seq (.reg [⟨(some 15), none, .p (.ld (some 2) (.tmp 2))⟩, ⟨(some 16), none, .p (.fad 0 (.tmp 3))⟩, ⟨(some 17), none, .p (.ld none (.tmp 16))⟩, ⟨(some 18), none, .p (.un .neg (.tmp 17))⟩, ⟨(some 19), none, .p (.fad 1 (.tmp 3))⟩, ⟨(some 20), none, .p (.ld none (.tmp 19))⟩, ⟨(some 21), none, .p (.bld [(.int .i64 0), (.int .i64 0)] [(0, 1, (.tmp 18)), (1, 1, (.tmp 20))])⟩, ⟨(some 22), none, .e (.call 11 [(.tmp 15), (.tmp 21)])⟩, ⟨(some 23), none, .p (.ext (.tmp 22) 0)⟩, ⟨(some 24), none, .p (.ext (.tmp 22) 1)⟩, ⟨none, none, .e (.st 2 (.tmp 4) (.tmp 23))⟩, ⟨(some 5), none, .p (.mov (.tmp 24))⟩])
  .ret)))
def rf13 : List RX := [.cell 4 (some 2), .tmp 5]
set_option maxRecDepth 100000 in
theorem comp13 : cFn Try.prog Try.f13 = some (erase cf13, rf13) := by kernel_rfl
/-- fairlink rational.Div -/
def cf14 : LC :=
  (.seq (.reg [⟨(some 2), none, .e (.box (.tmp 0))⟩, ⟨(some 3), none, .e (.box (.tmp 1))⟩, ⟨(some 4), none, .e (.alc [(.int .i64 0), (.int .i64 0)])⟩, ⟨(some 5), none, .p (.mov (.const (.int .i64 0)))⟩])
  (.seq (.seq (.reg [⟨(some 6), none, .p (.ld (some 2) (.tmp 2))⟩, ⟨(some 7), none, .e (.call 15 [(.tmp 6)])⟩, ⟨(some 8), none, .p (.un .not (.tmp 7))⟩, ⟨(some 9), none, .p (.mov (.tmp 8))⟩, ⟨(some 10), (some (9, false)), .p (.ld (some 2) (.tmp 3))⟩, ⟨(some 11), (some (9, false)), .e (.call 15 [(.tmp 10)])⟩, ⟨(some 12), (some (9, false)), .p (.un .not (.tmp 11))⟩, ⟨(some 13), none, .p (.pick (.tmp 9) (.const (.bool true)) (.tmp 12))⟩])
  (.cond (.tmp 13) (.seq (.reg [⟨(some 14), none, .p (.bld [(.int .i64 0), (.int .i64 0)] [])⟩, ⟨none, none, .e (.st 2 (.tmp 4) (.tmp 14))⟩, ⟨(some 5), none, .p (.mov (.const (.int .i64 1)))⟩])
  .ret) .skip))
  (.seq (.block 0
  (.seq (.reg [⟨(some 16), none, .p (.fad 0 (.tmp 3))⟩, ⟨(some 17), none, .p (.ld none (.tmp 16))⟩, ⟨(some 18), none, .p (.bin .eql (.tmp 17) (.const (.int .i64 0)))⟩, ⟨(some 15), none, .p (.mov (.tmp 18))⟩])
  (.cond (.tmp 15) (.seq (.reg [⟨(some 19), none, .p (.bld [(.int .i64 0), (.int .i64 0)] [])⟩, ⟨none, none, .e (.st 2 (.tmp 4) (.tmp 19))⟩, ⟨(some 5), none, .p (.mov (.const (.int .i64 2)))⟩])
  .ret) (.seq (.reg [⟨(some 21), none, .p (.fad 0 (.tmp 3))⟩, ⟨(some 22), none, .p (.ld none (.tmp 21))⟩, ⟨(some 23), none, .p (.bin .lss (.tmp 22) (.const (.int .i64 0)))⟩, ⟨(some 20), none, .p (.mov (.tmp 23))⟩])
  (.cond (.tmp 20) (.seq (.reg [⟨(some 24), none, .p (.ld (some 2) (.tmp 2))⟩, ⟨(some 25), none, .p (.fad 1 (.tmp 3))⟩, ⟨(some 26), none, .p (.ld none (.tmp 25))⟩, ⟨(some 27), none, .p (.un .neg (.tmp 26))⟩, ⟨(some 28), none, .p (.fad 0 (.tmp 3))⟩, ⟨(some 29), none, .p (.ld none (.tmp 28))⟩, ⟨(some 30), none, .p (.un .neg (.tmp 29))⟩, ⟨(some 31), none, .p (.bld [(.int .i64 0), (.int .i64 0)] [(0, 1, (.tmp 27)), (1, 1, (.tmp 30))])⟩, ⟨(some 32), none, .e (.call 12 [(.tmp 24), (.tmp 31)])⟩, ⟨(some 33), none, .p (.ext (.tmp 32) 0)⟩, ⟨(some 34), none, .p (.ext (.tmp 32) 1)⟩, ⟨none, none, .e (.st 2 (.tmp 4) (.tmp 33))⟩, ⟨(some 5), none, .p (.mov (.tmp 34))⟩])
  .ret) .skip)))))
  (.seq (.reg [⟨(some 35), none, .p (.ld (some 2) (.tmp 2))⟩, ⟨(some 36), none, .p (.fad 1 (.tmp 3))⟩, ⟨(some 37), none, .p (.ld none (.tmp 36))⟩, ⟨(some 38), none, .p (.fad 0 (.tmp 3))⟩, ⟨(some 39), none, .p (.ld none (.tmp 38))⟩, ⟨(some 40), none, .p (.bld [(.int .i64 0), (.int .i64 0)] [(0, 1, (.tmp 37)), (1, 1, (.tmp 39))])⟩, ⟨(some 41), none, .e (.call 12 [(.tmp 35), (.tmp 40)])⟩, ⟨(some 42), none, .p (.ext (.tmp 41) 0)⟩, ⟨(some 43), none, .p (.ext (.tmp 41) 1)⟩, ⟨none, none, .e (.st 2 (.tmp 4) (.tmp 42))⟩, ⟨(some 5), none, .p (.mov (.tmp 43))⟩])
  .ret))))
def rf14 : List RX := [.cell 4 (some 2), .tmp 5]
set_option maxRecDepth 100000 in
theorem comp14 : cFn Try.prog Try.f14 = some (erase cf14, rf14) := by kernel_rfl
/-- fairlink rational.Valid -/
def cf15 : LC :=
  (.seq (.reg [⟨(some 1), none, .e (.box (.tmp 0))⟩, ⟨(some 2), none, .p (.mov (.const (.bool false)))⟩])
  (.seq (.seq (.reg [⟨(some 3), none, .p (.fad 0 (.tmp 1))⟩, ⟨(some 4), none, .p (.ld none (.tmp 3))⟩, ⟨(some 5), none, .p (.bin .eql (.tmp 4) (.const (.int .i64 0)))⟩, ⟨(some 6), none, .p (.mov (.tmp 5))⟩, ⟨(some 7), (some (6, true)), .p (.fad 1 (.tmp 1))⟩, ⟨(some 8), (some (6, true)), .p (.ld none (.tmp 7))⟩, ⟨(some 9), (some (6, true)), .p (.bin .eql (.tmp 8) (.const (.int .i64 0)))⟩, ⟨(some 10), none, .p (.pick (.tmp 6) (.tmp 9) (.const (.bool false)))⟩])
  (.cond (.tmp 10) (.seq (.reg [⟨(some 2), none, .p (.mov (.const (.bool true)))⟩])
  .ret) .skip))
  (.seq (.dreg [⟨(some 11), none, .p (.fad 1 (.tmp 1))⟩, ⟨(some 12), none, .p (.ld none (.tmp 11))⟩, ⟨(some 13), none, .p (.bin .geq (.tmp 12) (.const (.int .i64 1)))⟩, ⟨(some 14), none, .p (.mov (.tmp 13))⟩, ⟨(some 15), (some (14, true)), .p (.fad 1 (.tmp 1))⟩, ⟨(some 16), (some (14, true)), .p (.ld none (.tmp 15))⟩, ⟨(some 17), (some (14, true)), .p (.bin .leq (.tmp 16) (.const (.int .i64 1152921504606846976)))⟩, ⟨(some 18), none, .p (.pick (.tmp 14) (.tmp 17) (.const (.bool false)))⟩, ⟨(some 19), none, .p (.mov (.tmp 18))⟩, ⟨(some 20), (some (19, true)), .p (.fad 0 (.tmp 1))⟩, ⟨(some 21), (some (19, true)), .p (.ld none (.tmp 20))⟩, ⟨(some 22), (some (19, true)), .p (.bin .geq (.tmp 21) (.const (.int .i64 (-1152921504606846976))))⟩, ⟨(some 23), none, .p (.pick (.tmp 19) (.tmp 22) (.const (.bool false)))⟩, ⟨(some 24), none, .p (.mov (.tmp 23))⟩, ⟨(some 25), (some (24, true)), .p (.fad 0 (.tmp 1))⟩, ⟨(some 26), (some (24, true)), .p (.ld none (.tmp 25))⟩, ⟨(some 27), (some (24, true)), .p (.bin .leq (.tmp 26) (.const (.int .i64 1152921504606846976)))⟩, ⟨(some 28), none, .p (.pick (.tmp 24) (.tmp 27) (.const (.bool false)))⟩, ⟨(some 29), none, .p (.mov (.tmp 28))⟩, ⟨(some 30), (some (29, true)), .p (.fad 0 (.tmp 1))⟩, ⟨(some 31), (some (29, true)), .p (.ld none (.tmp 30))⟩, ⟨(some 32), (some (29, true)), .e (.call 33 [(.tmp 31)])⟩, ⟨(some 33), (some (29, true)), .p (.fad 1 (.tmp 1))⟩, ⟨(some 34), (some (29, true)), .p (.ld none (.tmp 33))⟩, ⟨(some 35), (some (29, true)), .e (.call 33 [(.tmp 34)])⟩, ⟨(some 36), (some (29, true)), .e (.call 32 [(.tmp 32), (.tmp 35)])⟩, ⟨(some 37), (some (29, true)), .p (.bin .eql (.tmp 36) (.const (.int .u64 1)))⟩, ⟨(some 38), none, .p (.pick (.tmp 29) (.tmp 37) (.const (.bool false)))⟩] [[⟨(some 2), none, .p (.mov (.tmp 38))⟩]])
  .ret)))
def rf15 : List RX := [.tmp 2]
set_option maxRecDepth 100000 in
theorem comp15 : cFn Try.prog Try.f15 = some (erase cf15, rf15) := by kernel_rfl
/-- fairlink rational.Of -/
def cf24 : LC :=
  (.seq (.reg [⟨(some 4), none, .e (.alc [(.int .i64 0), (.int .i64 0)])⟩, ⟨(some 5), none, .p (.mov (.const (.int .i64 0)))⟩])
  (.seq (.seq (.reg [⟨(some 7), none, .p (.mov (.tmp 1))⟩, ⟨(some 8), none, .p (.bin .eql (.tmp 7) (.const (.int .i64 0)))⟩])
  (.cond (.tmp 8) (.seq (.reg [⟨(some 9), none, .p (.bld [(.int .i64 0), (.int .i64 0)] [])⟩, ⟨none, none, .e (.st 2 (.tmp 4) (.tmp 9))⟩, ⟨(some 5), none, .p (.mov (.const (.int .i64 2)))⟩])
  .ret) .skip))
  (.seq (.reg [⟨(some 10), none, .p (.mov (.tmp 0))⟩, ⟨(some 11), none, .e (.call 33 [(.tmp 10)])⟩, ⟨(some 12), none, .p (.mov (.tmp 1))⟩, ⟨(some 13), none, .e (.call 33 [(.tmp 12)])⟩, ⟨(some 14), none, .e (.call 32 [(.tmp 11), (.tmp 13)])⟩, ⟨(some 6), none, .p (.mov (.tmp 14))⟩])
  (.seq (.dreg [⟨(some 15), none, .p (.mov (.tmp 0))⟩, ⟨(some 16), none, .p (.bin .lss (.tmp 15) (.const (.int .i64 0)))⟩, ⟨(some 17), none, .p (.mov (.tmp 1))⟩, ⟨(some 18), none, .p (.bin .lss (.tmp 17) (.const (.int .i64 0)))⟩, ⟨(some 19), none, .p (.binb true (.tmp 16) (.tmp 18))⟩, ⟨(some 20), none, .p (.mov (.tmp 0))⟩, ⟨(some 21), none, .e (.call 33 [(.tmp 20)])⟩, ⟨(some 22), none, .p (.mov (.tmp 6))⟩, ⟨(some 23), none, .p (.bin .quo (.tmp 21) (.tmp 22))⟩, ⟨(some 24), none, .p (.bld [(.bool false), (.int .u64 0), (.int .u64 0)] [(0, 1, (.tmp 19)), (1, 1, (.const (.int .u64 0))), (2, 1, (.tmp 23))])⟩, ⟨(some 25), none, .p (.mov (.tmp 1))⟩, ⟨(some 26), none, .e (.call 33 [(.tmp 25)])⟩, ⟨(some 27), none, .p (.mov (.tmp 6))⟩, ⟨(some 28), none, .p (.bin .quo (.tmp 26) (.tmp 27))⟩, ⟨(some 29), none, .p (.bld [(.bool false), (.int .u64 0), (.int .u64 0)] [(0, 1, (.const (.bool false))), (1, 1, (.const (.int .u64 0))), (2, 1, (.tmp 28))])⟩, ⟨(some 30), none, .e (.call 38 [(.tmp 24), (.tmp 29)])⟩, ⟨(some 31), none, .p (.ext (.tmp 30) 0)⟩, ⟨(some 32), none, .p (.ext (.tmp 30) 1)⟩] [[⟨none, none, .e (.st 2 (.tmp 4) (.tmp 31))⟩, ⟨(some 5), none, .p (.mov (.tmp 32))⟩]])
  .ret))))
def rf24 : List RX := [.cell 4 (some 2), .tmp 5]
set_option maxRecDepth 100000 in
theorem comp24 : cFn Try.prog Try.f24 = some (erase cf24, rf24) := by kernel_rfl
def lb26_0 : LC :=
  (.seq (.reg [⟨(some 13), none, .p (.bin .lss (.tmp 12) (.tmp 11))⟩])
  (.seq (.cond (.tmp 13) .skip (.exit 0))
  (.seq (.block 1
  (.seq (.reg [⟨(some 14), none, .p (.iad 2 (.tmp 10) (.tmp 12))⟩, ⟨(some 15), none, .p (.ld (some 2) (.tmp 14))⟩, ⟨(some 6), none, .e (.alc [(.int .i64 0), (.int .i64 0)])⟩, ⟨none, none, .e (.st 2 (.tmp 6) (.tmp 15))⟩])
  (.seq (.reg [⟨(some 17), none, .p (.ld (some 2) (.tmp 4))⟩, ⟨(some 18), none, .p (.ld (some 2) (.tmp 6))⟩, ⟨(some 19), none, .e (.call 11 [(.tmp 17), (.tmp 18)])⟩, ⟨(some 16), none, .p (.mov (.tmp 19))⟩, ⟨(some 20), none, .p (.ext (.tmp 16) 0)⟩, ⟨(some 21), none, .p (.ext (.tmp 16) 1)⟩, ⟨(some 7), none, .e (.alc [(.int .i64 0), (.int .i64 0)])⟩, ⟨none, none, .e (.st 2 (.tmp 7) (.tmp 20))⟩, ⟨(some 8), none, .p (.mov (.tmp 21))⟩])
  (.seq (.seq (.reg [⟨(some 22), none, .p (.mov (.tmp 8))⟩, ⟨(some 23), none, .p (.bin .neq (.tmp 22) (.const (.int .i64 0)))⟩])
  (.cond (.tmp 23) (.seq (.reg [⟨(some 24), none, .p (.bld [(.int .i64 0), (.int .i64 0)] [])⟩, ⟨(some 25), none, .p (.mov (.tmp 8))⟩, ⟨none, none, .e (.st 2 (.tmp 2) (.tmp 24))⟩, ⟨(some 3), none, .p (.mov (.tmp 25))⟩])
  .ret) .skip))
  (.reg [⟨(some 26), none, .p (.ld (some 2) (.tmp 7))⟩, ⟨none, none, .e (.st 2 (.tmp 4) (.tmp 26))⟩])))))
  (.reg [⟨(some 27), none, .p (.bin .add (.tmp 12) (.const (.int .i64 1)))⟩, ⟨(some 12), none, .p (.mov (.tmp 27))⟩]))))
/-- fairlink rational.Sum -/
def cf26 : LC :=
  (.seq (.reg [⟨(some 2), none, .e (.alc [(.int .i64 0), (.int .i64 0)])⟩, ⟨(some 3), none, .p (.mov (.const (.int .i64 0)))⟩])
  (.seq (.reg [⟨(some 9), none, .p (.bld [(.int .i64 0), (.int .i64 0)] [(0, 1, (.const (.int .i64 0))), (1, 1, (.const (.int .i64 1)))])⟩, ⟨(some 4), none, .e (.alc [(.int .i64 0), (.int .i64 0)])⟩, ⟨none, none, .e (.st 2 (.tmp 4) (.tmp 9))⟩])
  (.seq (.seq (.reg [⟨(some 10), none, .p (.mov (.tmp 0))⟩, ⟨(some 11), none, .p (.len 1 (.tmp 10))⟩, ⟨(some 12), none, .p (.mov (.const (.int .i64 0)))⟩])
  (.block 0
  (.loop lb26_0)))
  (.seq (.reg [⟨(some 28), none, .p (.ld (some 2) (.tmp 4))⟩, ⟨none, none, .e (.st 2 (.tmp 2) (.tmp 28))⟩, ⟨(some 3), none, .p (.mov (.const (.int .i64 0)))⟩])
  .ret))))
def rf26 : List RX := [.cell 2 (some 2), .tmp 3]
set_option maxRecDepth 100000 in
theorem comp26 : cFn Try.prog Try.f26 = some (erase cf26, rf26) := by kernel_rfl
/-- fairlink rational.Cmp -/
def cf27 : LC :=
  (.seq (.reg [⟨(some 2), none, .e (.box (.tmp 0))⟩, ⟨(some 3), none, .e (.box (.tmp 1))⟩, ⟨(some 4), none, .p (.mov (.const (.int .i64 0)))⟩])
  (.seq (.seq (.reg [⟨(some 7), none, .p (.ld (some 2) (.tmp 2))⟩, ⟨(some 8), none, .e (.call 15 [(.tmp 7)])⟩, ⟨(some 9), none, .p (.un .not (.tmp 8))⟩, ⟨(some 10), none, .p (.mov (.tmp 9))⟩, ⟨(some 11), (some (10, false)), .p (.ld (some 2) (.tmp 3))⟩, ⟨(some 12), (some (10, false)), .e (.call 15 [(.tmp 11)])⟩, ⟨(some 13), (some (10, false)), .p (.un .not (.tmp 12))⟩, ⟨(some 14), none, .p (.pick (.tmp 10) (.const (.bool true)) (.tmp 13))⟩])
  (.cond (.tmp 14) (.seq (.reg [⟨(some 4), none, .p (.mov (.const (.int .i64 0)))⟩])
  .ret) .skip))
  (.seq (.dreg [⟨(some 15), none, .p (.ld (some 2) (.tmp 2))⟩, ⟨(some 16), none, .e (.call 31 [(.tmp 15)])⟩, ⟨(some 17), none, .p (.ld (some 2) (.tmp 3))⟩, ⟨(some 18), none, .e (.call 31 [(.tmp 17)])⟩] [[⟨none, none, .e (.st 2 (.tmp 2) (.tmp 16))⟩, ⟨none, none, .e (.st 2 (.tmp 3) (.tmp 18))⟩]])
  (.seq (.dreg [⟨(some 19), none, .p (.fad 0 (.tmp 2))⟩, ⟨(some 20), none, .p (.ld none (.tmp 19))⟩, ⟨(some 21), none, .p (.fad 1 (.tmp 3))⟩, ⟨(some 22), none, .p (.ld none (.tmp 21))⟩, ⟨(some 23), none, .e (.ecl 33 [(.tmp 22)])⟩, ⟨(some 24), none, .e (.ecl 34 [(.tmp 20), (.tmp 23)])⟩, ⟨(some 25), none, .p (.fad 0 (.tmp 3))⟩, ⟨(some 26), none, .p (.ld none (.tmp 25))⟩, ⟨(some 27), none, .p (.fad 1 (.tmp 2))⟩, ⟨(some 28), none, .p (.ld none (.tmp 27))⟩, ⟨(some 29), none, .e (.ecl 33 [(.tmp 28)])⟩, ⟨(some 30), none, .e (.ecl 34 [(.tmp 26), (.tmp 29)])⟩] [[⟨(some 5), none, .e (.alc [(.bool false), (.int .u64 0), (.int .u64 0)])⟩, ⟨(some 6), none, .e (.alc [(.bool false), (.int .u64 0), (.int .u64 0)])⟩, ⟨none, none, .e (.st 3 (.tmp 5) (.tmp 24))⟩, ⟨none, none, .e (.st 3 (.tmp 6) (.tmp 30))⟩], [⟨(some 6), none, .e (.alc [(.bool false), (.int .u64 0), (.int .u64 0)])⟩, ⟨(some 5), none, .e (.alc [(.bool false), (.int .u64 0), (.int .u64 0)])⟩, ⟨none, none, .e (.st 3 (.tmp 5) (.tmp 24))⟩, ⟨none, none, .e (.st 3 (.tmp 6) (.tmp 30))⟩]])
  (.seq (.block 0
  (.seq (.reg [⟨(some 32), none, .p (.fad 0 (.tmp 5))⟩, ⟨(some 33), none, .p (.ld none (.tmp 32))⟩, ⟨(some 34), none, .p (.mov (.tmp 33))⟩, ⟨(some 35), (some (34, true)), .p (.fad 0 (.tmp 6))⟩, ⟨(some 36), (some (34, true)), .p (.ld none (.tmp 35))⟩, ⟨(some 37), none, .p (.pick (.tmp 34) (.tmp 36) (.const (.bool false)))⟩, ⟨(some 31), none, .p (.mov (.tmp 37))⟩])
  (.cond (.tmp 31) (.seq (.reg [⟨(some 38), none, .p (.ld (some 3) (.tmp 6))⟩, ⟨(some 39), none, .p (.ld (some 3) (.tmp 5))⟩, ⟨(some 40), none, .e (.call 42 [(.tmp 38), (.tmp 39)])⟩, ⟨(some 4), none, .p (.mov (.tmp 40))⟩])
  .ret) (.seq (.reg [⟨(some 42), none, .p (.fad 0 (.tmp 5))⟩, ⟨(some 43), none, .p (.ld none (.tmp 42))⟩, ⟨(some 41), none, .p (.mov (.tmp 43))⟩])
  (.cond (.tmp 41) (.seq (.reg [⟨(some 4), none, .p (.mov (.const (.int .i64 (-1))))⟩])
  .ret) (.seq (.reg [⟨(some 45), none, .p (.fad 0 (.tmp 6))⟩, ⟨(some 46), none, .p (.ld none (.tmp 45))⟩, ⟨(some 44), none, .p (.mov (.tmp 46))⟩])
  (.cond (.tmp 44) (.seq (.reg [⟨(some 4), none, .p (.mov (.const (.int .i64 1)))⟩])
  .ret) .skip)))))))
  (.seq (.reg [⟨(some 47), none, .p (.ld (some 3) (.tmp 5))⟩, ⟨(some 48), none, .p (.ld (some 3) (.tmp 6))⟩, ⟨(some 49), none, .e (.call 42 [(.tmp 47), (.tmp 48)])⟩, ⟨(some 4), none, .p (.mov (.tmp 49))⟩])
  .ret))))))
def rf27 : List RX := [.tmp 4]
set_option maxRecDepth 100000 in
theorem comp27 : cFn Try.prog Try.f27 = some (erase cf27, rf27) := by kernel_rfl
/-- fairlink rational.Floor -/
def cf29 : LC :=
  (.seq (.reg [⟨(some 1), none, .e (.box (.tmp 0))⟩, ⟨(some 2), none, .p (.mov (.const (.int .i64 0)))⟩])
  (.seq (.seq (.reg [⟨(some 4), none, .p (.ld (some 2) (.tmp 1))⟩, ⟨(some 5), none, .e (.call 15 [(.tmp 4)])⟩, ⟨(some 6), none, .p (.un .not (.tmp 5))⟩])
  (.cond (.tmp 6) (.seq (.reg [⟨(some 2), none, .p (.mov (.const (.int .i64 0)))⟩])
  .ret) .skip))
  (.seq (.reg [⟨(some 7), none, .p (.ld (some 2) (.tmp 1))⟩, ⟨(some 8), none, .e (.call 31 [(.tmp 7)])⟩, ⟨none, none, .e (.st 2 (.tmp 1) (.tmp 8))⟩])
  (.seq (.reg [⟨(some 9), none, .p (.fad 0 (.tmp 1))⟩, ⟨(some 10), none, .p (.ld none (.tmp 9))⟩, ⟨(some 11), none, .p (.fad 1 (.tmp 1))⟩, ⟨(some 12), none, .p (.ld none (.tmp 11))⟩, ⟨(some 13), none, .p (.bin .quo (.tmp 10) (.tmp 12))⟩, ⟨(some 3), none, .p (.mov (.tmp 13))⟩])
  (.seq (.seq (.reg [⟨(some 14), none, .p (.fad 0 (.tmp 1))⟩, ⟨(some 15), none, .p (.ld none (.tmp 14))⟩, ⟨(some 16), none, .p (.fad 1 (.tmp 1))⟩, ⟨(some 17), none, .p (.ld none (.tmp 16))⟩, ⟨(some 18), none, .p (.bin .rem (.tmp 15) (.tmp 17))⟩, ⟨(some 19), none, .p (.bin .lss (.tmp 18) (.const (.int .i64 0)))⟩])
  (.cond (.tmp 19) (.reg [⟨(some 20), none, .p (.mov (.tmp 3))⟩, ⟨(some 21), none, .p (.bin .sub (.tmp 20) (.const (.int .i64 1)))⟩, ⟨(some 3), none, .p (.mov (.tmp 21))⟩]) .skip))
  (.seq (.reg [⟨(some 22), none, .p (.mov (.tmp 3))⟩, ⟨(some 2), none, .p (.mov (.tmp 22))⟩])
  .ret))))))
def rf29 : List RX := [.tmp 2]
set_option maxRecDepth 100000 in
theorem comp29 : cFn Try.prog Try.f29 = some (erase cf29, rf29) := by kernel_rfl
/-- fairlink rational.normal -/
def cf31 : LC :=
  (.seq (.reg [⟨(some 1), none, .e (.box (.tmp 0))⟩, ⟨(some 2), none, .e (.alc [(.int .i64 0), (.int .i64 0)])⟩])
  (.seq (.seq (.reg [⟨(some 3), none, .p (.fad 1 (.tmp 1))⟩, ⟨(some 4), none, .p (.ld none (.tmp 3))⟩, ⟨(some 5), none, .p (.bin .eql (.tmp 4) (.const (.int .i64 0)))⟩])
  (.cond (.tmp 5) (.reg [⟨(some 6), none, .p (.fad 1 (.tmp 1))⟩, ⟨none, none, .e (.st 1 (.tmp 6) (.const (.int .i64 1)))⟩]) .skip))
  (.seq (.reg [⟨(some 7), none, .p (.ld (some 2) (.tmp 1))⟩, ⟨none, none, .e (.st 2 (.tmp 2) (.tmp 7))⟩])
  .ret)))
def rf31 : List RX := [.cell 2 (some 2)]
set_option maxRecDepth 100000 in
theorem comp31 : cFn Try.prog Try.f31 = some (erase cf31, rf31) := by kernel_rfl
def lb32_0 : LC :=
  (.seq (.seq (.reg [⟨(some 5), none, .p (.mov (.tmp 1))⟩, ⟨(some 6), none, .p (.bin .neq (.tmp 5) (.const (.int .u64 0)))⟩])
  (.cond (.tmp 6) .skip (.exit 0)))
  (.block 1
  (.dreg [⟨(some 7), none, .p (.mov (.tmp 1))⟩, ⟨(some 8), none, .p (.mov (.tmp 0))⟩, ⟨(some 9), none, .p (.mov (.tmp 1))⟩, ⟨(some 10), none, .p (.bin .rem (.tmp 8) (.tmp 9))⟩, ⟨(some 0), none, .p (.mov (.tmp 7))⟩] [[⟨(some 1), none, .p (.mov (.tmp 10))⟩]])))
/-- fairlink rational.gcd -/
def cf32 : LC :=
  (.seq (.reg [⟨(some 4), none, .p (.mov (.const (.int .u64 0)))⟩])
  (.seq (.block 0
  (.loop lb32_0))
  (.seq (.reg [⟨(some 11), none, .p (.mov (.tmp 0))⟩, ⟨(some 4), none, .p (.mov (.tmp 11))⟩])
  .ret)))
def rf32 : List RX := [.tmp 4]
set_option maxRecDepth 100000 in
theorem comp32 : cFn Try.prog Try.f32 = some (erase cf32, rf32) := by kernel_rfl
/-- fairlink rational.size -/
def cf33 : LC :=
  (.seq (.reg [⟨(some 2), none, .p (.mov (.const (.int .u64 0)))⟩])
  (.seq (.seq (.reg [⟨(some 3), none, .p (.mov (.tmp 0))⟩, ⟨(some 4), none, .p (.bin .lss (.tmp 3) (.const (.int .i64 0)))⟩])
  (.cond (.tmp 4) (.seq (.reg [⟨(some 5), none, .p (.mov (.tmp 0))⟩, ⟨(some 6), none, .p (.cvt .u64 (.tmp 5))⟩, ⟨(some 7), none, .p (.un .neg (.tmp 6))⟩, ⟨(some 2), none, .p (.mov (.tmp 7))⟩])
  .ret) .skip))
  (.seq (.reg [⟨(some 8), none, .p (.mov (.tmp 0))⟩, ⟨(some 9), none, .p (.cvt .u64 (.tmp 8))⟩, ⟨(some 2), none, .p (.mov (.tmp 9))⟩])
  .ret)))
def rf33 : List RX := [.tmp 2]
set_option maxRecDepth 100000 in
theorem comp33 : cFn Try.prog Try.f33 = some (erase cf33, rf33) := by kernel_rfl
/-- fairlink rational.product -/
def cf34 : LC :=
  (.seq (.reg [⟨(some 4), none, .e (.alc [(.bool false), (.int .u64 0), (.int .u64 0)])⟩])
  (.seq (.reg [⟨(some 8), none, .p (.mov (.tmp 0))⟩, ⟨(some 9), none, .e (.call 33 [(.tmp 8)])⟩, ⟨(some 10), none, .p (.mov (.tmp 1))⟩, ⟨(some 11), none, .e (.call 37 [(.tmp 9), (.tmp 10)])⟩, ⟨(some 7), none, .p (.mov (.tmp 11))⟩, ⟨(some 12), none, .p (.ext (.tmp 7) 0)⟩, ⟨(some 13), none, .p (.ext (.tmp 7) 1)⟩, ⟨(some 5), none, .p (.mov (.tmp 12))⟩, ⟨(some 6), none, .p (.mov (.tmp 13))⟩])
  (.seq (.reg [⟨(some 14), none, .p (.mov (.tmp 0))⟩, ⟨(some 15), none, .p (.bin .lss (.tmp 14) (.const (.int .i64 0)))⟩, ⟨(some 16), none, .p (.mov (.tmp 5))⟩, ⟨(some 17), none, .p (.mov (.tmp 6))⟩, ⟨(some 18), none, .p (.bld [(.bool false), (.int .u64 0), (.int .u64 0)] [(0, 1, (.tmp 15)), (1, 1, (.tmp 16)), (2, 1, (.tmp 17))])⟩, ⟨none, none, .e (.st 3 (.tmp 4) (.tmp 18))⟩])
  .ret)))
def rf34 : List RX := [.cell 4 (some 3)]
set_option maxRecDepth 100000 in
theorem comp34 : cFn Try.prog Try.f34 = some (erase cf34, rf34) := by kernel_rfl
/--  fairlink rational.wide .add -/
def cf35 : LC :=
  (.seq (.reg [⟨(some 2), none, .e (.box (.tmp 0))⟩, ⟨(some 3), none, .e (.box (.tmp 1))⟩, ⟨(some 4), none, .e (.alc [(.bool false), (.int .u64 0), (.int .u64 0)])⟩])
  (.seq (.seq (.reg [⟨(some 13), none, .p (.fad 0 (.tmp 2))⟩, ⟨(some 14), none, .p (.ld none (.tmp 13))⟩, ⟨(some 15), none, .p (.fad 0 (.tmp 3))⟩, ⟨(some 16), none, .p (.ld none (.tmp 15))⟩, ⟨(some 17), none, .p (.binb false (.tmp 14) (.tmp 16))⟩])
  (.cond (.tmp 17) (.seq (.reg [⟨(some 19), none, .p (.fad 2 (.tmp 2))⟩, ⟨(some 20), none, .p (.ld none (.tmp 19))⟩, ⟨(some 21), none, .p (.fad 2 (.tmp 3))⟩, ⟨(some 22), none, .p (.ld none (.tmp 21))⟩, ⟨(some 23), none, .e (.ext 43 [(.tmp 20), (.tmp 22), (.const (.int .u64 0))])⟩, ⟨(some 18), none, .p (.mov (.tmp 23))⟩, ⟨(some 24), none, .p (.ext (.tmp 18) 0)⟩, ⟨(some 25), none, .p (.ext (.tmp 18) 1)⟩, ⟨(some 5), none, .p (.mov (.tmp 24))⟩, ⟨(some 6), none, .p (.mov (.tmp 25))⟩])
  (.seq (.reg [⟨(some 27), none, .p (.fad 1 (.tmp 2))⟩, ⟨(some 28), none, .p (.ld none (.tmp 27))⟩, ⟨(some 29), none, .p (.fad 1 (.tmp 3))⟩, ⟨(some 30), none, .p (.ld none (.tmp 29))⟩, ⟨(some 31), none, .p (.mov (.tmp 6))⟩, ⟨(some 32), none, .e (.ext 43 [(.tmp 28), (.tmp 30), (.tmp 31)])⟩, ⟨(some 26), none, .p (.mov (.tmp 32))⟩, ⟨(some 33), none, .p (.ext (.tmp 26) 0)⟩, ⟨(some 34), none, .p (.ext (.tmp 26) 1)⟩, ⟨(some 7), none, .p (.mov (.tmp 33))⟩, ⟨(some 8), none, .p (.mov (.tmp 34))⟩])
  (.seq (.reg [⟨(some 35), none, .p (.fad 0 (.tmp 2))⟩, ⟨(some 36), none, .p (.ld none (.tmp 35))⟩, ⟨(some 37), none, .p (.mov (.tmp 7))⟩, ⟨(some 38), none, .p (.mov (.tmp 5))⟩, ⟨(some 39), none, .p (.bld [(.bool false), (.int .u64 0), (.int .u64 0)] [(0, 1, (.tmp 36)), (1, 1, (.tmp 37)), (2, 1, (.tmp 38))])⟩, ⟨none, none, .e (.st 3 (.tmp 4) (.tmp 39))⟩])
  .ret))) .skip))
  (.seq (.seq (.reg [⟨(some 40), none, .p (.ld (some 3) (.tmp 2))⟩, ⟨(some 41), none, .p (.ld (some 3) (.tmp 3))⟩, ⟨(some 42), none, .e (.call 42 [(.tmp 40), (.tmp 41)])⟩, ⟨(some 43), none, .p (.bin .lss (.tmp 42) (.const (.int .i64 0)))⟩])
  (.cond (.tmp 43) (.reg [⟨(some 44), none, .p (.ld (some 3) (.tmp 3))⟩, ⟨(some 45), none, .p (.ld (some 3) (.tmp 2))⟩, ⟨none, none, .e (.st 3 (.tmp 2) (.tmp 44))⟩, ⟨none, none, .e (.st 3 (.tmp 3) (.tmp 45))⟩]) .skip))
  (.seq (.reg [⟨(some 47), none, .p (.fad 2 (.tmp 2))⟩, ⟨(some 48), none, .p (.ld none (.tmp 47))⟩, ⟨(some 49), none, .p (.fad 2 (.tmp 3))⟩, ⟨(some 50), none, .p (.ld none (.tmp 49))⟩, ⟨(some 51), none, .e (.ext 44 [(.tmp 48), (.tmp 50), (.const (.int .u64 0))])⟩, ⟨(some 46), none, .p (.mov (.tmp 51))⟩, ⟨(some 52), none, .p (.ext (.tmp 46) 0)⟩, ⟨(some 53), none, .p (.ext (.tmp 46) 1)⟩, ⟨(some 9), none, .p (.mov (.tmp 52))⟩, ⟨(some 10), none, .p (.mov (.tmp 53))⟩])
  (.seq (.reg [⟨(some 55), none, .p (.fad 1 (.tmp 2))⟩, ⟨(some 56), none, .p (.ld none (.tmp 55))⟩, ⟨(some 57), none, .p (.fad 1 (.tmp 3))⟩, ⟨(some 58), none, .p (.ld none (.tmp 57))⟩, ⟨(some 59), none, .p (.mov (.tmp 10))⟩, ⟨(some 60), none, .e (.ext 44 [(.tmp 56), (.tmp 58), (.tmp 59)])⟩, ⟨(some 54), none, .p (.mov (.tmp 60))⟩, ⟨(some 61), none, .p (.ext (.tmp 54) 0)⟩, ⟨(some 62), none, .p (.ext (.tmp 54) 1)⟩, ⟨(some 11), none, .p (.mov (.tmp 61))⟩, ⟨(some 12), none, .p (.mov (.tmp 62))⟩])
  (.seq (.reg [⟨(some 63), none, .p (.fad 0 (.tmp 2))⟩, ⟨(some 64), none, .p (.ld none (.tmp 63))⟩, ⟨(some 65), none, .p (.mov (.tmp 11))⟩, ⟨(some 66), none, .p (.mov (.tmp 9))⟩, ⟨(some 67), none, .p (.bld [(.bool false), (.int .u64 0), (.int .u64 0)] [(0, 1, (.tmp 64)), (1, 1, (.tmp 65)), (2, 1, (.tmp 66))])⟩, ⟨none, none, .e (.st 3 (.tmp 4) (.tmp 67))⟩])
  .ret))))))
def rf35 : List RX := [.cell 4 (some 3)]
set_option maxRecDepth 100000 in
theorem comp35 : cFn Try.prog Try.f35 = some (erase cf35, rf35) := by kernel_rfl
/--  fairlink rational.wide .divide -/
def cf36 : LC :=
  (.seq (.reg [⟨(some 2), none, .e (.box (.tmp 0))⟩, ⟨(some 4), none, .e (.alc [(.bool false), (.int .u64 0), (.int .u64 0)])⟩, ⟨(some 5), none, .p (.mov (.const (.int .u64 0)))⟩])
  (.seq (.dreg [⟨(some 9), none, .p (.fad 1 (.tmp 2))⟩, ⟨(some 10), none, .p (.ld none (.tmp 9))⟩, ⟨(some 11), none, .p (.mov (.tmp 1))⟩, ⟨(some 12), none, .p (.bin .rem (.tmp 10) (.tmp 11))⟩, ⟨(some 13), none, .p (.fad 2 (.tmp 2))⟩, ⟨(some 14), none, .p (.ld none (.tmp 13))⟩, ⟨(some 15), none, .p (.mov (.tmp 1))⟩, ⟨(some 16), none, .e (.call 45 [(.tmp 12), (.tmp 14), (.tmp 15)])⟩, ⟨(some 8), none, .p (.mov (.tmp 16))⟩, ⟨(some 17), none, .p (.ext (.tmp 8) 0)⟩, ⟨(some 18), none, .p (.ext (.tmp 8) 1)⟩, ⟨(some 6), none, .p (.mov (.tmp 17))⟩] [[⟨(some 7), none, .p (.mov (.tmp 18))⟩]])
  (.seq (.dreg [⟨(some 19), none, .p (.fad 0 (.tmp 2))⟩, ⟨(some 20), none, .p (.ld none (.tmp 19))⟩, ⟨(some 21), none, .p (.fad 1 (.tmp 2))⟩, ⟨(some 22), none, .p (.ld none (.tmp 21))⟩, ⟨(some 23), none, .p (.mov (.tmp 1))⟩, ⟨(some 24), none, .p (.bin .quo (.tmp 22) (.tmp 23))⟩, ⟨(some 25), none, .p (.mov (.tmp 6))⟩, ⟨(some 26), none, .p (.bld [(.bool false), (.int .u64 0), (.int .u64 0)] [(0, 1, (.tmp 20)), (1, 1, (.tmp 24)), (2, 1, (.tmp 25))])⟩, ⟨(some 27), none, .p (.mov (.tmp 7))⟩] [[⟨none, none, .e (.st 3 (.tmp 4) (.tmp 26))⟩, ⟨(some 5), none, .p (.mov (.tmp 27))⟩]])
  .ret)))
def rf36 : List RX := [.cell 4 (some 3), .tmp 5]
set_option maxRecDepth 100000 in
theorem comp36 : cFn Try.prog Try.f36 = some (erase cf36, rf36) := by kernel_rfl
/-- fairlink rational.result -/
def cf38 : LC :=
  (.seq (.reg [⟨(some 2), none, .e (.box (.tmp 0))⟩, ⟨(some 3), none, .e (.box (.tmp 1))⟩, ⟨(some 4), none, .e (.alc [(.int .i64 0), (.int .i64 0)])⟩, ⟨(some 5), none, .p (.mov (.const (.int .i64 0)))⟩])
  (.seq (.seq (.reg [⟨(some 6), none, .p (.fad 1 (.tmp 2))⟩, ⟨(some 7), none, .p (.ld none (.tmp 6))⟩, ⟨(some 8), none, .p (.bin .eql (.tmp 7) (.const (.int .u64 0)))⟩, ⟨(some 9), none, .p (.mov (.tmp 8))⟩, ⟨(some 10), (some (9, true)), .p (.fad 2 (.tmp 2))⟩, ⟨(some 11), (some (9, true)), .p (.ld none (.tmp 10))⟩, ⟨(some 12), (some (9, true)), .p (.bin .eql (.tmp 11) (.const (.int .u64 0)))⟩, ⟨(some 13), none, .p (.pick (.tmp 9) (.tmp 12) (.const (.bool false)))⟩])
  (.cond (.tmp 13) (.seq (.reg [⟨(some 14), none, .p (.bld [(.int .i64 0), (.int .i64 0)] [(0, 1, (.const (.int .i64 0))), (1, 1, (.const (.int .i64 1)))])⟩, ⟨none, none, .e (.st 2 (.tmp 4) (.tmp 14))⟩, ⟨(some 5), none, .p (.mov (.const (.int .i64 0)))⟩])
  .ret) .skip))
  (.seq (.seq (.reg [⟨(some 15), none, .p (.ld (some 3) (.tmp 2))⟩, ⟨(some 16), none, .e (.call 46 [(.tmp 15)])⟩, ⟨(some 17), none, .p (.un .not (.tmp 16))⟩, ⟨(some 18), none, .p (.mov (.tmp 17))⟩, ⟨(some 19), (some (18, false)), .p (.ld (some 3) (.tmp 3))⟩, ⟨(some 20), (some (18, false)), .e (.call 46 [(.tmp 19)])⟩, ⟨(some 21), (some (18, false)), .p (.un .not (.tmp 20))⟩, ⟨(some 22), none, .p (.pick (.tmp 18) (.const (.bool true)) (.tmp 21))⟩])
  (.cond (.tmp 22) (.seq (.reg [⟨(some 23), none, .p (.bld [(.int .i64 0), (.int .i64 0)] [])⟩, ⟨none, none, .e (.st 2 (.tmp 4) (.tmp 23))⟩, ⟨(some 5), none, .p (.mov (.const (.int .i64 10)))⟩])
  .ret) .skip))
  (.seq (.dreg [⟨(some 24), none, .p (.ld (some 3) (.tmp 2))⟩, ⟨(some 25), none, .e (.call 47 [(.tmp 24)])⟩, ⟨(some 26), none, .p (.ld (some 3) (.tmp 3))⟩, ⟨(some 27), none, .e (.call 47 [(.tmp 26)])⟩, ⟨(some 28), none, .p (.bld [(.int .i64 0), (.int .i64 0)] [(0, 1, (.tmp 25)), (1, 1, (.tmp 27))])⟩] [[⟨none, none, .e (.st 2 (.tmp 4) (.tmp 28))⟩, ⟨(some 5), none, .p (.mov (.const (.int .i64 0)))⟩]])
  .ret))))
def rf38 : List RX := [.cell 4 (some 2), .tmp 5]
set_option maxRecDepth 100000 in
theorem comp38 : cFn Try.prog Try.f38 = some (erase cf38, rf38) := by kernel_rfl
/--  fairlink rational.wide .compare -/
def cf42 : LC :=
  (.seq (.reg [⟨(some 2), none, .e (.box (.tmp 0))⟩, ⟨(some 3), none, .e (.box (.tmp 1))⟩, ⟨(some 4), none, .p (.mov (.const (.int .i64 0)))⟩])
  (.seq (.block 0
  (.seq (.reg [⟨(some 6), none, .p (.fad 1 (.tmp 2))⟩, ⟨(some 7), none, .p (.ld none (.tmp 6))⟩, ⟨(some 8), none, .p (.fad 1 (.tmp 3))⟩, ⟨(some 9), none, .p (.ld none (.tmp 8))⟩, ⟨(some 10), none, .p (.bin .lss (.tmp 7) (.tmp 9))⟩, ⟨(some 11), none, .p (.mov (.tmp 10))⟩, ⟨(some 12), (some (11, false)), .p (.fad 1 (.tmp 2))⟩, ⟨(some 13), (some (11, false)), .p (.ld none (.tmp 12))⟩, ⟨(some 14), (some (11, false)), .p (.fad 1 (.tmp 3))⟩, ⟨(some 15), (some (11, false)), .p (.ld none (.tmp 14))⟩, ⟨(some 16), (some (11, false)), .p (.bin .eql (.tmp 13) (.tmp 15))⟩, ⟨(some 17), (some (11, false)), .p (.mov (.tmp 16))⟩, ⟨(some 18), (some (17, true)), .p (.fad 2 (.tmp 2))⟩, ⟨(some 19), (some (17, true)), .p (.ld none (.tmp 18))⟩, ⟨(some 20), (some (17, true)), .p (.fad 2 (.tmp 3))⟩, ⟨(some 21), (some (17, true)), .p (.ld none (.tmp 20))⟩, ⟨(some 22), (some (17, true)), .p (.bin .lss (.tmp 19) (.tmp 21))⟩, ⟨(some 23), (some (11, false)), .p (.pick (.tmp 17) (.tmp 22) (.const (.bool false)))⟩, ⟨(some 24), none, .p (.pick (.tmp 11) (.const (.bool true)) (.tmp 23))⟩, ⟨(some 5), none, .p (.mov (.tmp 24))⟩])
  (.cond (.tmp 5) (.seq (.reg [⟨(some 4), none, .p (.mov (.const (.int .i64 (-1))))⟩])
  .ret) (.seq (.reg [⟨(some 26), none, .p (.fad 1 (.tmp 2))⟩, ⟨(some 27), none, .p (.ld none (.tmp 26))⟩, ⟨(some 28), none, .p (.fad 1 (.tmp 3))⟩, ⟨(some 29), none, .p (.ld none (.tmp 28))⟩, ⟨(some 30), none, .p (.bin .eql (.tmp 27) (.tmp 29))⟩, ⟨(some 31), none, .p (.mov (.tmp 30))⟩, ⟨(some 32), (some (31, true)), .p (.fad 2 (.tmp 2))⟩, ⟨(some 33), (some (31, true)), .p (.ld none (.tmp 32))⟩, ⟨(some 34), (some (31, true)), .p (.fad 2 (.tmp 3))⟩, ⟨(some 35), (some (31, true)), .p (.ld none (.tmp 34))⟩, ⟨(some 36), (some (31, true)), .p (.bin .eql (.tmp 33) (.tmp 35))⟩, ⟨(some 37), none, .p (.pick (.tmp 31) (.tmp 36) (.const (.bool false)))⟩, ⟨(some 25), none, .p (.mov (.tmp 37))⟩])
  (.cond (.tmp 25) (.seq (.reg [⟨(some 4), none, .p (.mov (.const (.int .i64 0)))⟩])
  .ret) .skip)))))
  (.seq (.reg [⟨(some 4), none, .p (.mov (.const (.int .i64 1)))⟩])
  .ret)))
def rf42 : List RX := [.tmp 4]
set_option maxRecDepth 100000 in
theorem comp42 : cFn Try.prog Try.f42 = some (erase cf42, rf42) := by kernel_rfl
/--  fairlink rational.wide .fits -/
def cf46 : LC :=
  (.seq (.reg [⟨(some 1), none, .e (.box (.tmp 0))⟩, ⟨(some 2), none, .p (.mov (.const (.bool false)))⟩])
  (.seq (.reg [⟨(some 3), none, .p (.fad 1 (.tmp 1))⟩, ⟨(some 4), none, .p (.ld none (.tmp 3))⟩, ⟨(some 5), none, .p (.bin .eql (.tmp 4) (.const (.int .u64 0)))⟩, ⟨(some 6), none, .p (.mov (.tmp 5))⟩, ⟨(some 7), (some (6, true)), .p (.fad 2 (.tmp 1))⟩, ⟨(some 8), (some (6, true)), .p (.ld none (.tmp 7))⟩, ⟨(some 9), (some (6, true)), .p (.bin .leq (.tmp 8) (.const (.int .u64 1152921504606846976)))⟩, ⟨(some 10), none, .p (.pick (.tmp 6) (.tmp 9) (.const (.bool false)))⟩, ⟨(some 2), none, .p (.mov (.tmp 10))⟩])
  .ret))
def rf46 : List RX := [.tmp 2]
set_option maxRecDepth 100000 in
theorem comp46 : cFn Try.prog Try.f46 = some (erase cf46, rf46) := by kernel_rfl
/--  fairlink rational.wide .signed -/
def cf47 : LC :=
  (.seq (.reg [⟨(some 1), none, .e (.box (.tmp 0))⟩, ⟨(some 2), none, .p (.mov (.const (.int .i64 0)))⟩])
  (.seq (.seq (.reg [⟨(some 3), none, .p (.fad 0 (.tmp 1))⟩, ⟨(some 4), none, .p (.ld none (.tmp 3))⟩])
  (.cond (.tmp 4) (.seq (.reg [⟨(some 5), none, .p (.fad 2 (.tmp 1))⟩, ⟨(some 6), none, .p (.ld none (.tmp 5))⟩, ⟨(some 7), none, .p (.cvt .i64 (.tmp 6))⟩, ⟨(some 8), none, .p (.un .neg (.tmp 7))⟩, ⟨(some 2), none, .p (.mov (.tmp 8))⟩])
  .ret) .skip))
  (.seq (.reg [⟨(some 9), none, .p (.fad 2 (.tmp 1))⟩, ⟨(some 10), none, .p (.ld none (.tmp 9))⟩, ⟨(some 11), none, .p (.cvt .i64 (.tmp 10))⟩, ⟨(some 2), none, .p (.mov (.tmp 11))⟩])
  .ret)))
def rf47 : List RX := [.tmp 2]
set_option maxRecDepth 100000 in
theorem comp47 : cFn Try.prog Try.f47 = some (erase cf47, rf47) := by kernel_rfl
end Go.Proofs.Ytfhifkcbdpgomaa
