/- DERIVED: THE SHELF's CONTRACTS AT THIS DUMP, IN PLAIN WORDS (tools/lay-plain.mjs out of 'TrydShelf.lean', which tools/lay-shelf.mjs wrote): THE SAME DECLARATIONS UNDER THE SAME NAMES: 'import', 'namespace', 'open', 'def', 'theorem' AND NOTHING ELSE: no command of the shelf's: FOR A HAND-IN. Each laying: the table of numbers ('.._ren') and one theorem, a field a fact of the dump's own or the kernel's comparison; each contract: ONE APPLICATION.; strings.Builder: what its methods do to a variable and its bytes; strings.Builder: WriteString, WriteByte; strings.Builder: String; Texts: what the library's functions hand back; Rational numbers as plain data; numbers of 64 bits without a sign; the greatest common divisor; The product of two numbers of 64 bits; comparing numbers of 128 bits; The number of bits of a number; The quotient of a number of 128 bits by one of 64: the plain law; The quotient of a number of 128 bits by one of 64: the library's own steps. Conditions: none. -/
import Derived.Test.YtdfiicpikcdokaaDoorMD
import Derived.Shelf.Strings.Builder1
import Derived.Shelf.Strings.BuilderF
import Derived.Shelf.Strings.BuilderK
import Derived.Shelf.Strconv.Itoa0
import Derived.Shelf.Strconv.Itoa1
import Derived.Shelf.LaysM
import Derived.Shelf.Strconv.Itoa2
import Derived.Shelf.Strconv.Itoa3
import Derived.Shelf.Bits.Mul64
import Derived.Shelf.Strings.BuilderCap
import Derived.Test.YtdfiicpikcdokaaDoorProg
import Derived.Lib.UnsafeStr
import Derived.Lib.Builder
import Derived.Shelf.RegionOpenPlain
import Derived.Laws.Externs
import Derived.Shelf.Spec.BitsCarry
namespace Go.Proofs
open Go.Shelf
def Tryd.lays169_ren : Go.Shelf.Ren := ⟨fun | 169 => 47 | n => n, fun | 70 => 85 | 9 => 9 | 0 => 0 | 72 => 88 | 37 => 86 | 127 => 101 | 3 => 3 | 5 => 5 | n => n, fun | n => n⟩
theorem Tryd.lays169 : Go.Proofs.Lays.n169 Tryd.prog Tryd.lays169_ren := {
  mixed := by kernel_rfl
  f169 := Tryd.func47.trans (congrArg some (by kernel_rfl))
  t0 := Tryd.underlying0
  a0 := Tryd.isAgg0
  z0 := Tryd.sizeOf0
  v0 := Tryd.zeroValue0
  t3 := Tryd.underlying3
  a3 := Tryd.isAgg3
  z3 := Tryd.sizeOf3
  v3 := Tryd.zeroValue3
  t9 := Tryd.underlying9
  a9 := Tryd.isAgg9
  z9 := Tryd.sizeOf9
  v9 := Tryd.zeroValue9
  t37 := Tryd.underlying86
  a37 := Tryd.isAgg86
  z37 := Tryd.sizeOf86
  v37 := Tryd.zeroValue86
  t70 := Tryd.underlying85
  a70 := Tryd.isAgg85
  z70 := Tryd.sizeOf85
  v70 := Tryd.zeroValue85
  t72 := Tryd.underlying88
  a72 := Tryd.isAgg88
  z72 := Tryd.sizeOf88
  v72 := Tryd.zeroValue88
  t127 := Tryd.underlying101
  a127 := Tryd.isAgg101
  z127 := Tryd.sizeOf101
  v127 := Tryd.zeroValue101 }
theorem Tryd.Builder_Extra_169 : Builder.Extra Tryd.prog Tryd.lays169_ren := {
  sizeBuilder := by kernel_rfl
  liesBuilder := by kernel_rfl
  t5 := Tryd.underlying5
  a5 := Tryd.isAgg5
  z5 := Tryd.sizeOf5
  v5 := Tryd.zeroValue5
  infoByte := by kernel_rfl
  cellsByte := by kernel_rfl
  sizeByte := by kernel_rfl
  neB5 := by decide }
open Go.RowKit in
/-- (*strings.Builder).String: "String returns the accumulated string.": OF A BUILDER THAT HOLDS AT LEAST ONE BYTE. ✋ THE MODEL FREEZES THOSE BYTES IN THE BUFFER (unsafe.String): a later write INTO them ends the model's run without an answer; a later append BEHIND them goes on. The statement's order of evaluation is drawn: one draw. (LAID: no walk: one application.) -/
theorem Tryd.Builder_String (B b : Nat) (l : List UInt8) (w : World) (h : Lib.IsBuilder 88 5 B b (Lib.byteCells l) w) (h0 : l ≠ []) :
    Calls Tryd.prog 47 #[.pointer (some ⟨b, 0, none⟩)] w fun e w' => e = .returned (.string ⟨l.toArray⟩) ∧ Below B w w' := Any.Builder_String Tryd.lays169 Tryd.Builder_Extra_169 B b l w h h0
open Go.RowKit in
/-- (*strings.Builder).String OF A BUILDER THAT HOLDS NO BYTE: the empty string. (Its buffer is nil, or a row of which it has taken nothing yet; where that row has NO capacity the model lays one new block for unsafe.SliceData's 'some address'.) One draw. (LAID: no walk: one application.) -/
theorem Tryd.Builder_String_empty (B b : Nat) (w : World) (h : Lib.IsBuilder 88 5 B b [] w) (hBw : B ≤ w.heap.size) :
    Calls Tryd.prog 47 #[.pointer (some ⟨b, 0, none⟩)] w fun e w' => e = .returned (.string ⟨#[]⟩) ∧ Below B w w' := Any.Builder_String_empty Tryd.lays169 Tryd.Builder_Extra_169 B b w h hBw
open Go.RowKit in
/-- (*strings.Builder).String: "String returns the accumulated string.": WHATEVER THE BUILDER HOLDS. (LAID: no walk: one application.) -/
theorem Tryd.Builder_String_any (B b : Nat) (l : List UInt8) (w : World) (h : Lib.IsBuilder 88 5 B b (Lib.byteCells l) w) (hBw : B ≤ w.heap.size) :
    Calls Tryd.prog 47 #[.pointer (some ⟨b, 0, none⟩)] w fun e w' => e = .returned (.string ⟨l.toArray⟩) ∧ Below B w w' := Any.Builder_String_any Tryd.lays169 Tryd.Builder_Extra_169 B b l w h hBw
open Go.RowKit in
/-- (*strings.Builder).String: "String returns the accumulated string.": OF A BUILDER THAT HOLDS AT LEAST ONE BYTE. ✋ THE MODEL FREEZES THOSE BYTES IN THE BUFFER (unsafe.String): a later write INTO them ends the model's run without an answer; a later append BEHIND them goes on. The statement's order of evaluation is drawn: one draw. THE FORM '_f': IT SAYS BESIDES THAT THE BUILDER IS A BUILDER STILL ('Lib.IsBuilderF', the same bytes): SO IT CAN BE WRITTEN ON: 'b.WriteString(b.String()[:k])'. (LAID: no walk: one application.) -/
theorem Tryd.Builder_String_f (B b : Nat) (l : List UInt8) (w : World) (h : Lib.IsBuilderF 88 5 B b (Lib.byteCells l) w) (h0 : l ≠ []) :
    Calls Tryd.prog 47 #[.pointer (some ⟨b, 0, none⟩)] w fun e w' => e = .returned (.string ⟨l.toArray⟩) ∧ (Lib.IsBuilderF 88 5 B b (Lib.byteCells l) w' ∧ Below B w w') := Any.Builder_String_f Tryd.lays169 Tryd.Builder_Extra_169 B b l w h h0
open Go.RowKit in
/-- (*strings.Builder).String OF A BUILDER THAT HOLDS NO BYTE: the empty string; THE FORM '_f': a builder still. (LAID: no walk: one application.) -/
theorem Tryd.Builder_String_empty_f (B b : Nat) (w : World) (h : Lib.IsBuilderF 88 5 B b [] w) (hBw : B ≤ w.heap.size) :
    Calls Tryd.prog 47 #[.pointer (some ⟨b, 0, none⟩)] w fun e w' => e = .returned (.string ⟨#[]⟩) ∧ (Lib.IsBuilderF 88 5 B b [] w' ∧ Below B w w') := Any.Builder_String_empty_f Tryd.lays169 Tryd.Builder_Extra_169 B b w h hBw
open Go.RowKit in
/-- (*strings.Builder).String: "String returns the accumulated string.": WHATEVER THE BUILDER HOLDS; THE FORM '_f': OF A BUILDER THAT MAY HAVE BEEN READ BEFORE; AND IT IS A BUILDER STILL, holding the same bytes: it can be written on. (LAID: no walk: one application.) -/
theorem Tryd.Builder_String_any_f (B b : Nat) (l : List UInt8) (w : World) (h : Lib.IsBuilderF 88 5 B b (Lib.byteCells l) w) (hBw : B ≤ w.heap.size) :
    Calls Tryd.prog 47 #[.pointer (some ⟨b, 0, none⟩)] w fun e w' => e = .returned (.string ⟨l.toArray⟩) ∧ (Lib.IsBuilderF 88 5 B b (Lib.byteCells l) w' ∧ Below B w w') := Any.Builder_String_any_f Tryd.lays169 Tryd.Builder_Extra_169 B b l w h hBw
open Go.RowKit in
/-- (*strings.Builder).String: "String returns the accumulated string.": OF A BUILDER THAT HOLDS AT LEAST ONE BYTE. ✋ THE MODEL FREEZES THOSE BYTES IN THE BUFFER (unsafe.String): a later write INTO them ends the model's run without an answer; a later append BEHIND them goes on. The statement's order of evaluation is drawn: one draw. THE FORM '_k': OVER 'Lib.IsBuilderF' (a builder that 'String()' may have read), AND WITH THE FRAME THAT REACHES ABOVE THE BUILDER: 'Lib.OthersKept': every block that is not b and is no row of uint8's stands as it stood: the iterator of a range among them. (LAID: no walk: one application.) -/
theorem Tryd.Builder_String_k (B b : Nat) (l : List UInt8) (w : World) (h : Lib.IsBuilderF 88 5 B b (Lib.byteCells l) w) (h0 : l ≠ []) :
    Calls Tryd.prog 47 #[.pointer (some ⟨b, 0, none⟩)] w fun e w' => e = .returned (.string ⟨l.toArray⟩) ∧ (Lib.IsBuilderF 88 5 B b (Lib.byteCells l) w' ∧ Below B w w' ∧ Lib.OthersKept 5 (some b) w w') := Any.Builder_String_k Tryd.lays169 Tryd.Builder_Extra_169 B b l w h h0
open Go.RowKit in
/-- (*strings.Builder).String OF A BUILDER THAT HOLDS NO BYTE: the empty string; THE FORM '_k': OVER 'Lib.IsBuilderF' (a builder that 'String()' may have read), AND WITH THE FRAME THAT REACHES ABOVE THE BUILDER: 'Lib.OthersKept': every block that is not b and is no row of uint8's stands as it stood: the iterator of a range among them. (LAID: no walk: one application.) -/
theorem Tryd.Builder_String_empty_k (B b : Nat) (w : World) (h : Lib.IsBuilderF 88 5 B b [] w) (hBw : B ≤ w.heap.size) :
    Calls Tryd.prog 47 #[.pointer (some ⟨b, 0, none⟩)] w fun e w' => e = .returned (.string ⟨#[]⟩) ∧ (Lib.IsBuilderF 88 5 B b [] w' ∧ Below B w w' ∧ Lib.OthersKept 5 (some b) w w') := Any.Builder_String_empty_k Tryd.lays169 Tryd.Builder_Extra_169 B b w h hBw
open Go.RowKit in
/-- (*strings.Builder).String: "String returns the accumulated string.": WHATEVER THE BUILDER HOLDS; THE FORM '_k': OVER 'Lib.IsBuilderF' (a builder that 'String()' may have read), AND WITH THE FRAME THAT REACHES ABOVE THE BUILDER: 'Lib.OthersKept': every block that is not b and is no row of uint8's stands as it stood: the iterator of a range among them. (LAID: no walk: one application.) -/
theorem Tryd.Builder_String_any_k (B b : Nat) (l : List UInt8) (w : World) (h : Lib.IsBuilderF 88 5 B b (Lib.byteCells l) w) (hBw : B ≤ w.heap.size) :
    Calls Tryd.prog 47 #[.pointer (some ⟨b, 0, none⟩)] w fun e w' => e = .returned (.string ⟨l.toArray⟩) ∧ (Lib.IsBuilderF 88 5 B b (Lib.byteCells l) w' ∧ Below B w w' ∧ Lib.OthersKept 5 (some b) w w') := Any.Builder_String_any_k Tryd.lays169 Tryd.Builder_Extra_169 B b l w h hBw
def Tryd.lays129_ren : Go.Shelf.Ren := ⟨fun | 129 => 63 | n => n, fun | 53 => 66 | 3 => 3 | 4 => 4 | 46 => 98 | 5 => 5 | 9 => 9 | n => n, fun | n => n⟩
theorem Tryd.lays129 : Go.Proofs.Lays.n129 Tryd.prog Tryd.lays129_ren := {
  mixed := by kernel_rfl
  f129 := Tryd.func63.trans (congrArg some (by kernel_rfl))
  t3 := Tryd.underlying3
  a3 := Tryd.isAgg3
  z3 := Tryd.sizeOf3
  v3 := Tryd.zeroValue3
  t4 := Tryd.underlying4
  a4 := Tryd.isAgg4
  z4 := Tryd.sizeOf4
  v4 := Tryd.zeroValue4
  t5 := Tryd.underlying5
  a5 := Tryd.isAgg5
  z5 := Tryd.sizeOf5
  v5 := Tryd.zeroValue5
  t9 := Tryd.underlying9
  a9 := Tryd.isAgg9
  z9 := Tryd.sizeOf9
  v9 := Tryd.zeroValue9
  t46 := Tryd.underlying98
  a46 := Tryd.isAgg98
  z46 := Tryd.sizeOf98
  v46 := Tryd.zeroValue98
  t53 := Tryd.underlying66
  a53 := Tryd.isAgg66
  z53 := Tryd.sizeOf66
  v53 := Tryd.zeroValue66 }
/-- bits.Len64: "Len64 returns the minimum number of bits required to represent x; the result is 0 for x == 0.": IT RETURNS 'Lib.bitLen x'; the world is as it was. ('h0', 'h1': x is a uint64.) (LAID: no walk: one application.) -/
theorem Tryd.bits_Len64 (x : Int) (w : World) (h0 : 0 ≤ x) (h1 : x ≤ 18446744073709551615) :
    Calls Tryd.prog 63 #[.int .u64 x] w fun e w' => e = .returned (.int .i64 (Lib.bitLen x.toNat)) ∧ w' = w := Any.bits_Len64 Tryd.lays129 x w h0 h1
def Tryd.lays317_ren : Go.Shelf.Ren := ⟨fun | 317 => 68 | n => n, fun | 3 => 3 | 46 => 98 | n => n, fun | n => n⟩
theorem Tryd.lays317 : Go.Proofs.Lays.n317 Tryd.prog Tryd.lays317_ren := {
  mixed := by kernel_rfl
  f317 := Tryd.func68.trans (congrArg some (by kernel_rfl))
  t3 := Tryd.underlying3
  a3 := Tryd.isAgg3
  z3 := Tryd.sizeOf3
  v3 := Tryd.zeroValue3
  t46 := Tryd.underlying98
  a46 := Tryd.isAgg98
  z46 := Tryd.sizeOf98
  v46 := Tryd.zeroValue98 }
open Go.Lib in
/-- internal/strconv.log10Pow2: "log10Pow2(x) returns ⌊log₁₀ 2**x⌋ = ⌊x * log₁₀ 2⌋.": '(x * 78913) >> 18', at an x up to 64 (a length in bits). The world is as it was. (LAID: no walk: one application.) -/
theorem Tryd.internal_strconv_log10Pow2 (x : Nat) (h : x ≤ 64) (w : World) :
    Calls Tryd.prog 68 #[.int .i64 x] w fun e w' => e = .returned (.int .i64 (Lib.l10 x)) ∧ w' = w := Any.internal_strconv_log10Pow2 Tryd.lays317 x h w
def Tryd.lays318_ren : Go.Shelf.Ren := ⟨fun | 318 => 69 | n => n, fun | 3 => 3 | 4 => 4 | n => n, fun | n => n⟩
theorem Tryd.lays318 : Go.Proofs.Lays.n318 Tryd.prog Tryd.lays318_ren := {
  mixed := by kernel_rfl
  f318 := Tryd.func69.trans (congrArg some (by kernel_rfl))
  t3 := Tryd.underlying3
  a3 := Tryd.isAgg3
  z3 := Tryd.sizeOf3
  v3 := Tryd.zeroValue3
  t4 := Tryd.underlying4
  a4 := Tryd.isAgg4
  z4 := Tryd.sizeOf4
  v4 := Tryd.zeroValue4 }
open Go.Lib in
/-- internal/strconv.bool2: "bool2 converts b to an integer: 1 for true, 0 for false." The world is as it was. (LAID: no walk: one application.) -/
theorem Tryd.internal_strconv_bool2_int (b : Bool) (w : World) :
    Calls Tryd.prog 69 #[.bool b] w fun e w' => e = .returned (.int .i64 (if b then 1 else 0)) ∧ w' = w := Any.internal_strconv_bool2_int Tryd.lays318 b w
def Tryd.lays283_ren : Go.Shelf.Ren := ⟨fun | 283 => 64 | n => n, fun | 3 => 3 | 9 => 9 | 4 => 4 | n => n, fun | n => n⟩
theorem Tryd.lays283 : Go.Proofs.Lays.n283 Tryd.prog Tryd.lays283_ren := {
  mixed := by kernel_rfl
  f283 := Tryd.func64.trans (congrArg some (by kernel_rfl))
  t3 := Tryd.underlying3
  a3 := Tryd.isAgg3
  z3 := Tryd.sizeOf3
  v3 := Tryd.zeroValue3
  t4 := Tryd.underlying4
  a4 := Tryd.isAgg4
  z4 := Tryd.sizeOf4
  v4 := Tryd.zeroValue4
  t9 := Tryd.underlying9
  a9 := Tryd.isAgg9
  z9 := Tryd.sizeOf9
  v9 := Tryd.zeroValue9 }
open Go.Lib in
/-- internal/strconv.small: "small returns the string for an i with 0 <= i < nSmalls.": i's decimal numeral. The world is as it was. (LAID: no walk: one application.) -/
theorem Tryd.internal_strconv_small (i : Nat) (h : i < 100) (w : World) :
    Calls Tryd.prog 64 #[.int .i64 i] w fun e w' => e = .returned (.string ⟨(Lib.decDigits i).toArray⟩) ∧ w' = w := Any.internal_strconv_small Tryd.lays283 i h w
def Tryd.laysM284_ren : Go.Shelf.Ren := ⟨fun | 284 => 65 | 129 => 63 | 317 => 68 | 318 => 69 | n => n, fun | 53 => 66 | 3 => 3 | 212 => 113 | 0 => 0 | 4 => 4 | 46 => 98 | 5 => 5 | 9 => 9 | n => n, fun | 17 => 2 | n => n⟩
theorem Tryd.laysM284 : Go.Proofs.LaysM.n284 Tryd.prog Tryd.laysM284_ren := {
  mixed := by kernel_rfl
  f129 := Tryd.func63.trans (congrArg some (by kernel_rfl))
  f284 := Tryd.func65.trans (congrArg some (by kernel_rfl))
  f317 := Tryd.func68.trans (congrArg some (by kernel_rfl))
  f318 := Tryd.func69.trans (congrArg some (by kernel_rfl))
  t0 := Tryd.underlying0
  a0 := Tryd.isAgg0
  z0 := Tryd.sizeOf0
  v0 := Tryd.zeroValue0
  t3 := Tryd.underlying3
  a3 := Tryd.isAgg3
  z3 := Tryd.sizeOf3
  v3 := Tryd.zeroValue3
  t4 := Tryd.underlying4
  a4 := Tryd.isAgg4
  z4 := Tryd.sizeOf4
  v4 := Tryd.zeroValue4
  t5 := Tryd.underlying5
  a5 := Tryd.isAgg5
  z5 := Tryd.sizeOf5
  v5 := Tryd.zeroValue5
  t9 := Tryd.underlying9
  a9 := Tryd.isAgg9
  z9 := Tryd.sizeOf9
  v9 := Tryd.zeroValue9
  t46 := Tryd.underlying98
  a46 := Tryd.isAgg98
  z46 := Tryd.sizeOf98
  v46 := Tryd.zeroValue98
  t53 := Tryd.underlying66
  a53 := Tryd.isAgg66
  z53 := Tryd.sizeOf66
  v53 := Tryd.zeroValue66
  t212 := Tryd.underlying113
  a212 := Tryd.isAgg113
  z212 := Tryd.sizeOf113
  v212 := Tryd.zeroValue113
  g17 := by kernel_rfl
  i0 := by kernel_rfl
  i3 := by kernel_rfl
  i4 := by kernel_rfl
  i5 := by kernel_rfl
  i9 := by kernel_rfl
  i46 := by kernel_rfl
  i53 := by kernel_rfl
  i212 := by kernel_rfl
  m17 := by kernel_rfl }
open Go.Lib in
/-- internal/strconv.numDigits, at a d that is not 0: THE NUMBER OF d's DECIMAL DIGITS. The world is as it was. (LAID: no walk: one application.) -/
theorem Tryd.internal_strconv_numDigits (u : Nat) (h1 : 1 ≤ u) (h2 : u < 18446744073709551616) (w : World) (htab : Lib.TabIs Tryd.prog w "internal/strconv.uint64pow10" .u64 Lib.pow10Tab) :
    Calls Tryd.prog 65 #[.int .u64 u] w fun e w' => e = .returned (.int .i64 (Lib.nDigits u)) ∧ w' = w := Any.internal_strconv_numDigits Tryd.laysM284 u h1 h2 w htab
def Tryd.lays285_ren : Go.Shelf.Ren := ⟨fun | 285 => 66 | n => n, fun | 37 => 86 | 53 => 66 | 3 => 3 | 4 => 4 | 51 => 114 | 9 => 9 | 5 => 5 | 0 => 0 | n => n, fun | n => n⟩
theorem Tryd.lays285 : Go.Proofs.Lays.n285 Tryd.prog Tryd.lays285_ren := {
  mixed := by kernel_rfl
  f285 := Tryd.func66.trans (congrArg some (by kernel_rfl))
  t0 := Tryd.underlying0
  a0 := Tryd.isAgg0
  z0 := Tryd.sizeOf0
  v0 := Tryd.zeroValue0
  t3 := Tryd.underlying3
  a3 := Tryd.isAgg3
  z3 := Tryd.sizeOf3
  v3 := Tryd.zeroValue3
  t4 := Tryd.underlying4
  a4 := Tryd.isAgg4
  z4 := Tryd.sizeOf4
  v4 := Tryd.zeroValue4
  t5 := Tryd.underlying5
  a5 := Tryd.isAgg5
  z5 := Tryd.sizeOf5
  v5 := Tryd.zeroValue5
  t9 := Tryd.underlying9
  a9 := Tryd.isAgg9
  z9 := Tryd.sizeOf9
  v9 := Tryd.zeroValue9
  t37 := Tryd.underlying86
  a37 := Tryd.isAgg86
  z37 := Tryd.sizeOf86
  v37 := Tryd.zeroValue86
  t51 := Tryd.underlying114
  a51 := Tryd.isAgg114
  z51 := Tryd.sizeOf114
  v51 := Tryd.zeroValue114
  t53 := Tryd.underlying66
  a53 := Tryd.isAgg66
  z53 := Tryd.sizeOf66
  v53 := Tryd.zeroValue66 }
open Go.RowKit Go.Sort Go.Lib in
/-- internal/strconv.formatBase10: "formatBase10 formats the decimal representation of u into a. The caller is responsible for ensuring that a is big enough to hold u. If a is too big, leading zeros will be filled in as needed.": THE ROW HOLDS u's DIGITS ('FmtInv .. 0 ..': every place t holds 'dg u (len - 1 - t)'); all else is as it was but for the count of draws. (LAID: no walk: one application.) -/
theorem Tryd.internal_strconv_formatBase10 (blk off cap : Nat) (u : Nat) (d : Array UInt8) (w : World) (hH : Holds (fun (b : UInt8) => Value.int .u8 (b.toNat : Int)) w blk off d) (hu : u < 10 ^ d.size) (hu64 : u < 18446744073709551616) (hsz : d.size < 4611686018427387904) :
    Calls Tryd.prog 66 #[.slice (some ⟨blk, off, none⟩) d.size cap, .int .u64 u] w fun e w' =>
      e = .returned (.tuple #[]) ∧ ∃ (n v' : Nat) (dk : Array UInt8), w' = (putRow (fun (b : UInt8) => Value.int .u8 (b.toNat : Int)) w blk off dk).drewN n ∧ FmtInv d.size u 0 v' dk := Any.internal_strconv_formatBase10 Tryd.lays285 blk off cap u d w hH hu hu64 hsz
def Tryd.laysM246_ren : Go.Shelf.Ren := ⟨fun | 246 => 62 | 283 => 64 | 284 => 65 | 285 => 66 | 286 => 67 | 129 => 63 | 317 => 68 | 318 => 69 | 319 => 70 | 320 => 71 | 337 => 72 | 338 => 73 | n => n, fun | 2 => 2 | 3 => 3 | 9 => 9 | 4 => 4 | 171 => 108 | 0 => 0 | 53 => 66 | 37 => 86 | 5 => 5 | 173 => 110 | 212 => 113 | 51 => 114 | 20 => 20 | 213 => 115 | 46 => 98 | 232 => 119 | 233 => 120 | n => n, fun | 17 => 2 | 18 => 3 | 19 => 4 | n => n⟩
theorem Tryd.laysM246 : Go.Proofs.LaysM.n246 Tryd.prog Tryd.laysM246_ren := {
  mixed := by kernel_rfl
  f129 := Tryd.func63.trans (congrArg some (by kernel_rfl))
  f246 := Tryd.func62.trans (congrArg some (by kernel_rfl))
  f283 := Tryd.func64.trans (congrArg some (by kernel_rfl))
  f284 := Tryd.func65.trans (congrArg some (by kernel_rfl))
  f285 := Tryd.func66.trans (congrArg some (by kernel_rfl))
  f286 := Tryd.func67.trans (congrArg some (by kernel_rfl))
  f317 := Tryd.func68.trans (congrArg some (by kernel_rfl))
  f318 := Tryd.func69.trans (congrArg some (by kernel_rfl))
  f319 := Tryd.func70.trans (congrArg some (by kernel_rfl))
  f320 := Tryd.func71.trans (congrArg some (by kernel_rfl))
  f337 := Tryd.func72.trans (congrArg some (by kernel_rfl))
  f338 := Tryd.func73.trans (congrArg some (by kernel_rfl))
  t0 := Tryd.underlying0
  a0 := Tryd.isAgg0
  z0 := Tryd.sizeOf0
  v0 := Tryd.zeroValue0
  t2 := Tryd.underlying2
  a2 := Tryd.isAgg2
  z2 := Tryd.sizeOf2
  v2 := Tryd.zeroValue2
  t3 := Tryd.underlying3
  a3 := Tryd.isAgg3
  z3 := Tryd.sizeOf3
  v3 := Tryd.zeroValue3
  t4 := Tryd.underlying4
  a4 := Tryd.isAgg4
  z4 := Tryd.sizeOf4
  v4 := Tryd.zeroValue4
  t5 := Tryd.underlying5
  a5 := Tryd.isAgg5
  z5 := Tryd.sizeOf5
  v5 := Tryd.zeroValue5
  t9 := Tryd.underlying9
  a9 := Tryd.isAgg9
  z9 := Tryd.sizeOf9
  v9 := Tryd.zeroValue9
  t20 := Tryd.underlying20
  a20 := Tryd.isAgg20
  z20 := Tryd.sizeOf20
  v20 := Tryd.zeroValue20
  t37 := Tryd.underlying86
  a37 := Tryd.isAgg86
  z37 := Tryd.sizeOf86
  v37 := Tryd.zeroValue86
  t46 := Tryd.underlying98
  a46 := Tryd.isAgg98
  z46 := Tryd.sizeOf98
  v46 := Tryd.zeroValue98
  t51 := Tryd.underlying114
  a51 := Tryd.isAgg114
  z51 := Tryd.sizeOf114
  v51 := Tryd.zeroValue114
  t53 := Tryd.underlying66
  a53 := Tryd.isAgg66
  z53 := Tryd.sizeOf66
  v53 := Tryd.zeroValue66
  t171 := Tryd.underlying108
  a171 := Tryd.isAgg108
  z171 := Tryd.sizeOf108
  v171 := Tryd.zeroValue108
  t173 := Tryd.underlying110
  a173 := Tryd.isAgg110
  z173 := Tryd.sizeOf110
  v173 := Tryd.zeroValue110
  t212 := Tryd.underlying113
  a212 := Tryd.isAgg113
  z212 := Tryd.sizeOf113
  v212 := Tryd.zeroValue113
  t213 := Tryd.underlying115
  a213 := Tryd.isAgg115
  z213 := Tryd.sizeOf115
  t232 := Tryd.underlying119
  a232 := Tryd.isAgg119
  z232 := Tryd.sizeOf119
  v232 := Tryd.zeroValue119
  t233 := Tryd.underlying120
  a233 := Tryd.isAgg120
  z233 := Tryd.sizeOf120
  v233 := Tryd.zeroValue120
  g17 := by kernel_rfl
  g18 := by kernel_rfl
  g19 := by kernel_rfl
  i0 := by kernel_rfl
  i2 := by kernel_rfl
  i3 := by kernel_rfl
  i4 := by kernel_rfl
  i5 := by kernel_rfl
  i9 := by kernel_rfl
  i20 := by kernel_rfl
  i37 := by kernel_rfl
  i46 := by kernel_rfl
  i51 := by kernel_rfl
  i53 := by kernel_rfl
  i171 := by kernel_rfl
  i173 := by kernel_rfl
  i212 := by kernel_rfl
  i232 := by kernel_rfl
  i233 := by kernel_rfl
  m17 := by kernel_rfl
  m18 := by kernel_rfl
  m19 := by kernel_rfl }
open Go.RowKit Go.Sort Go.Lib in
/-- internal/strconv.FormatInt: "FormatInt returns the string representation of i in the given base": AT BASE 10: i's decimal numeral, for every int64. The world behind the call: the world before it, new blocks behind the heap, draws. (LAID: no walk: one application.) -/
theorem Tryd.internal_strconv_FormatInt_10 (n : Int) (h0 : -9223372036854775808 ≤ n) (h1 : n ≤ 9223372036854775807) (w : World) (htab : Lib.TabIs Tryd.prog w "internal/strconv.uint64pow10" .u64 Lib.pow10Tab) :
    Calls Tryd.prog 62 #[.int .i64 n, .int .i64 10] w fun e w' => e = .returned (.string ⟨(Lib.itoa n).toArray⟩) ∧ ∃ k os, w' = grow (w.drewN k) os := Any.internal_strconv_FormatInt_10 Tryd.laysM246 n h0 h1 w htab
def Tryd.lays246_ren : Go.Shelf.Ren := ⟨fun | 246 => 62 | 283 => 64 | 284 => 65 | 285 => 66 | 286 => 67 | 129 => 63 | 317 => 68 | 318 => 69 | 319 => 70 | 320 => 71 | 337 => 72 | 338 => 73 | n => n, fun | 2 => 2 | 3 => 3 | 9 => 9 | 4 => 4 | 171 => 108 | 0 => 0 | 53 => 66 | 37 => 86 | 5 => 5 | 173 => 110 | 212 => 113 | 51 => 114 | 20 => 20 | 213 => 115 | 46 => 98 | 232 => 119 | 233 => 120 | n => n, fun | 17 => 2 | 18 => 3 | 19 => 4 | n => n⟩
theorem Tryd.lays246 : Go.Proofs.Lays.n246 Tryd.prog Tryd.lays246_ren := {
  mixed := by kernel_rfl
  f129 := Tryd.func63.trans (congrArg some (by kernel_rfl))
  f246 := Tryd.func62.trans (congrArg some (by kernel_rfl))
  f283 := Tryd.func64.trans (congrArg some (by kernel_rfl))
  f284 := Tryd.func65.trans (congrArg some (by kernel_rfl))
  f285 := Tryd.func66.trans (congrArg some (by kernel_rfl))
  f286 := Tryd.func67.trans (congrArg some (by kernel_rfl))
  f317 := Tryd.func68.trans (congrArg some (by kernel_rfl))
  f318 := Tryd.func69.trans (congrArg some (by kernel_rfl))
  f319 := Tryd.func70.trans (congrArg some (by kernel_rfl))
  f320 := Tryd.func71.trans (congrArg some (by kernel_rfl))
  f337 := Tryd.func72.trans (congrArg some (by kernel_rfl))
  f338 := Tryd.func73.trans (congrArg some (by kernel_rfl))
  t0 := Tryd.underlying0
  a0 := Tryd.isAgg0
  z0 := Tryd.sizeOf0
  v0 := Tryd.zeroValue0
  t2 := Tryd.underlying2
  a2 := Tryd.isAgg2
  z2 := Tryd.sizeOf2
  v2 := Tryd.zeroValue2
  t3 := Tryd.underlying3
  a3 := Tryd.isAgg3
  z3 := Tryd.sizeOf3
  v3 := Tryd.zeroValue3
  t4 := Tryd.underlying4
  a4 := Tryd.isAgg4
  z4 := Tryd.sizeOf4
  v4 := Tryd.zeroValue4
  t5 := Tryd.underlying5
  a5 := Tryd.isAgg5
  z5 := Tryd.sizeOf5
  v5 := Tryd.zeroValue5
  t9 := Tryd.underlying9
  a9 := Tryd.isAgg9
  z9 := Tryd.sizeOf9
  v9 := Tryd.zeroValue9
  t20 := Tryd.underlying20
  a20 := Tryd.isAgg20
  z20 := Tryd.sizeOf20
  v20 := Tryd.zeroValue20
  t37 := Tryd.underlying86
  a37 := Tryd.isAgg86
  z37 := Tryd.sizeOf86
  v37 := Tryd.zeroValue86
  t46 := Tryd.underlying98
  a46 := Tryd.isAgg98
  z46 := Tryd.sizeOf98
  v46 := Tryd.zeroValue98
  t51 := Tryd.underlying114
  a51 := Tryd.isAgg114
  z51 := Tryd.sizeOf114
  v51 := Tryd.zeroValue114
  t53 := Tryd.underlying66
  a53 := Tryd.isAgg66
  z53 := Tryd.sizeOf66
  v53 := Tryd.zeroValue66
  t171 := Tryd.underlying108
  a171 := Tryd.isAgg108
  z171 := Tryd.sizeOf108
  v171 := Tryd.zeroValue108
  t173 := Tryd.underlying110
  a173 := Tryd.isAgg110
  z173 := Tryd.sizeOf110
  v173 := Tryd.zeroValue110
  t212 := Tryd.underlying113
  a212 := Tryd.isAgg113
  z212 := Tryd.sizeOf113
  v212 := Tryd.zeroValue113
  t213 := Tryd.underlying115
  a213 := Tryd.isAgg115
  z213 := Tryd.sizeOf115
  t232 := Tryd.underlying119
  a232 := Tryd.isAgg119
  z232 := Tryd.sizeOf119
  v232 := Tryd.zeroValue119
  t233 := Tryd.underlying120
  a233 := Tryd.isAgg120
  z233 := Tryd.sizeOf120
  v233 := Tryd.zeroValue120
  g17 := by kernel_rfl
  g18 := by kernel_rfl
  g19 := by kernel_rfl }
open Go.RowKit Go.Sort Go.Lib in
/-- THE ROAD WITHOUT THE TABLE: 0 <= i < 100: two constants are read, nothing is laid: no premise on the world, and the world is as it was. (LAID: no walk: one application.) -/
theorem Tryd.internal_strconv_FormatInt_10_small (i : Nat) (hi : i < 100) (w : World) :
    Calls Tryd.prog 62 #[.int .i64 i, .int .i64 10] w fun e w' => e = .returned (.string ⟨(Lib.decDigits i).toArray⟩) ∧ w' = w := Any.internal_strconv_FormatInt_10_small Tryd.lays246 i hi w
def Tryd.laysM243_ren : Go.Shelf.Ren := ⟨fun | 243 => 57 | 246 => 62 | 283 => 64 | 284 => 65 | 285 => 66 | 286 => 67 | 129 => 63 | 317 => 68 | 318 => 69 | 319 => 70 | 320 => 71 | 337 => 72 | 338 => 73 | n => n, fun | 3 => 3 | 9 => 9 | 2 => 2 | 4 => 4 | 171 => 108 | 0 => 0 | 53 => 66 | 37 => 86 | 5 => 5 | 173 => 110 | 212 => 113 | 51 => 114 | 20 => 20 | 213 => 115 | 46 => 98 | 232 => 119 | 233 => 120 | n => n, fun | 17 => 2 | 18 => 3 | 19 => 4 | n => n⟩
theorem Tryd.laysM243 : Go.Proofs.LaysM.n243 Tryd.prog Tryd.laysM243_ren := {
  mixed := by kernel_rfl
  f129 := Tryd.func63.trans (congrArg some (by kernel_rfl))
  f243 := Tryd.func57.trans (congrArg some (by kernel_rfl))
  f246 := Tryd.func62.trans (congrArg some (by kernel_rfl))
  f283 := Tryd.func64.trans (congrArg some (by kernel_rfl))
  f284 := Tryd.func65.trans (congrArg some (by kernel_rfl))
  f285 := Tryd.func66.trans (congrArg some (by kernel_rfl))
  f286 := Tryd.func67.trans (congrArg some (by kernel_rfl))
  f317 := Tryd.func68.trans (congrArg some (by kernel_rfl))
  f318 := Tryd.func69.trans (congrArg some (by kernel_rfl))
  f319 := Tryd.func70.trans (congrArg some (by kernel_rfl))
  f320 := Tryd.func71.trans (congrArg some (by kernel_rfl))
  f337 := Tryd.func72.trans (congrArg some (by kernel_rfl))
  f338 := Tryd.func73.trans (congrArg some (by kernel_rfl))
  t0 := Tryd.underlying0
  a0 := Tryd.isAgg0
  z0 := Tryd.sizeOf0
  v0 := Tryd.zeroValue0
  t2 := Tryd.underlying2
  a2 := Tryd.isAgg2
  z2 := Tryd.sizeOf2
  v2 := Tryd.zeroValue2
  t3 := Tryd.underlying3
  a3 := Tryd.isAgg3
  z3 := Tryd.sizeOf3
  v3 := Tryd.zeroValue3
  t4 := Tryd.underlying4
  a4 := Tryd.isAgg4
  z4 := Tryd.sizeOf4
  v4 := Tryd.zeroValue4
  t5 := Tryd.underlying5
  a5 := Tryd.isAgg5
  z5 := Tryd.sizeOf5
  v5 := Tryd.zeroValue5
  t9 := Tryd.underlying9
  a9 := Tryd.isAgg9
  z9 := Tryd.sizeOf9
  v9 := Tryd.zeroValue9
  t20 := Tryd.underlying20
  a20 := Tryd.isAgg20
  z20 := Tryd.sizeOf20
  v20 := Tryd.zeroValue20
  t37 := Tryd.underlying86
  a37 := Tryd.isAgg86
  z37 := Tryd.sizeOf86
  v37 := Tryd.zeroValue86
  t46 := Tryd.underlying98
  a46 := Tryd.isAgg98
  z46 := Tryd.sizeOf98
  v46 := Tryd.zeroValue98
  t51 := Tryd.underlying114
  a51 := Tryd.isAgg114
  z51 := Tryd.sizeOf114
  v51 := Tryd.zeroValue114
  t53 := Tryd.underlying66
  a53 := Tryd.isAgg66
  z53 := Tryd.sizeOf66
  v53 := Tryd.zeroValue66
  t171 := Tryd.underlying108
  a171 := Tryd.isAgg108
  z171 := Tryd.sizeOf108
  v171 := Tryd.zeroValue108
  t173 := Tryd.underlying110
  a173 := Tryd.isAgg110
  z173 := Tryd.sizeOf110
  v173 := Tryd.zeroValue110
  t212 := Tryd.underlying113
  a212 := Tryd.isAgg113
  z212 := Tryd.sizeOf113
  v212 := Tryd.zeroValue113
  t213 := Tryd.underlying115
  a213 := Tryd.isAgg115
  z213 := Tryd.sizeOf115
  t232 := Tryd.underlying119
  a232 := Tryd.isAgg119
  z232 := Tryd.sizeOf119
  v232 := Tryd.zeroValue119
  t233 := Tryd.underlying120
  a233 := Tryd.isAgg120
  z233 := Tryd.sizeOf120
  v233 := Tryd.zeroValue120
  g17 := by kernel_rfl
  g18 := by kernel_rfl
  g19 := by kernel_rfl
  i0 := by kernel_rfl
  i2 := by kernel_rfl
  i3 := by kernel_rfl
  i4 := by kernel_rfl
  i5 := by kernel_rfl
  i9 := by kernel_rfl
  i20 := by kernel_rfl
  i37 := by kernel_rfl
  i46 := by kernel_rfl
  i51 := by kernel_rfl
  i53 := by kernel_rfl
  i171 := by kernel_rfl
  i173 := by kernel_rfl
  i212 := by kernel_rfl
  i232 := by kernel_rfl
  i233 := by kernel_rfl
  m17 := by kernel_rfl
  m18 := by kernel_rfl
  m19 := by kernel_rfl }
open Go.RowKit Go.Sort Go.Lib in
/-- internal/strconv.Itoa: "Itoa is equivalent to FormatInt(int64(i), 10).": i's decimal numeral, for every int. (LAID: no walk: one application.) -/
theorem Tryd.internal_strconv_Itoa (n : Int) (h0 : -9223372036854775808 ≤ n) (h1 : n ≤ 9223372036854775807) (w : World) (htab : Lib.TabIs Tryd.prog w "internal/strconv.uint64pow10" .u64 Lib.pow10Tab) :
    Calls Tryd.prog 57 #[.int .i64 n] w fun e w' => e = .returned (.string ⟨(Lib.itoa n).toArray⟩) ∧ ∃ k os, w' = grow (w.drewN k) os := Any.internal_strconv_Itoa Tryd.laysM243 n h0 h1 w htab
def Tryd.lays243_ren : Go.Shelf.Ren := ⟨fun | 243 => 57 | 246 => 62 | 283 => 64 | 284 => 65 | 285 => 66 | 286 => 67 | 129 => 63 | 317 => 68 | 318 => 69 | 319 => 70 | 320 => 71 | 337 => 72 | 338 => 73 | n => n, fun | 3 => 3 | 9 => 9 | 2 => 2 | 4 => 4 | 171 => 108 | 0 => 0 | 53 => 66 | 37 => 86 | 5 => 5 | 173 => 110 | 212 => 113 | 51 => 114 | 20 => 20 | 213 => 115 | 46 => 98 | 232 => 119 | 233 => 120 | n => n, fun | 17 => 2 | 18 => 3 | 19 => 4 | n => n⟩
theorem Tryd.lays243 : Go.Proofs.Lays.n243 Tryd.prog Tryd.lays243_ren := {
  mixed := by kernel_rfl
  f129 := Tryd.func63.trans (congrArg some (by kernel_rfl))
  f243 := Tryd.func57.trans (congrArg some (by kernel_rfl))
  f246 := Tryd.func62.trans (congrArg some (by kernel_rfl))
  f283 := Tryd.func64.trans (congrArg some (by kernel_rfl))
  f284 := Tryd.func65.trans (congrArg some (by kernel_rfl))
  f285 := Tryd.func66.trans (congrArg some (by kernel_rfl))
  f286 := Tryd.func67.trans (congrArg some (by kernel_rfl))
  f317 := Tryd.func68.trans (congrArg some (by kernel_rfl))
  f318 := Tryd.func69.trans (congrArg some (by kernel_rfl))
  f319 := Tryd.func70.trans (congrArg some (by kernel_rfl))
  f320 := Tryd.func71.trans (congrArg some (by kernel_rfl))
  f337 := Tryd.func72.trans (congrArg some (by kernel_rfl))
  f338 := Tryd.func73.trans (congrArg some (by kernel_rfl))
  t0 := Tryd.underlying0
  a0 := Tryd.isAgg0
  z0 := Tryd.sizeOf0
  v0 := Tryd.zeroValue0
  t2 := Tryd.underlying2
  a2 := Tryd.isAgg2
  z2 := Tryd.sizeOf2
  v2 := Tryd.zeroValue2
  t3 := Tryd.underlying3
  a3 := Tryd.isAgg3
  z3 := Tryd.sizeOf3
  v3 := Tryd.zeroValue3
  t4 := Tryd.underlying4
  a4 := Tryd.isAgg4
  z4 := Tryd.sizeOf4
  v4 := Tryd.zeroValue4
  t5 := Tryd.underlying5
  a5 := Tryd.isAgg5
  z5 := Tryd.sizeOf5
  v5 := Tryd.zeroValue5
  t9 := Tryd.underlying9
  a9 := Tryd.isAgg9
  z9 := Tryd.sizeOf9
  v9 := Tryd.zeroValue9
  t20 := Tryd.underlying20
  a20 := Tryd.isAgg20
  z20 := Tryd.sizeOf20
  v20 := Tryd.zeroValue20
  t37 := Tryd.underlying86
  a37 := Tryd.isAgg86
  z37 := Tryd.sizeOf86
  v37 := Tryd.zeroValue86
  t46 := Tryd.underlying98
  a46 := Tryd.isAgg98
  z46 := Tryd.sizeOf98
  v46 := Tryd.zeroValue98
  t51 := Tryd.underlying114
  a51 := Tryd.isAgg114
  z51 := Tryd.sizeOf114
  v51 := Tryd.zeroValue114
  t53 := Tryd.underlying66
  a53 := Tryd.isAgg66
  z53 := Tryd.sizeOf66
  v53 := Tryd.zeroValue66
  t171 := Tryd.underlying108
  a171 := Tryd.isAgg108
  z171 := Tryd.sizeOf108
  v171 := Tryd.zeroValue108
  t173 := Tryd.underlying110
  a173 := Tryd.isAgg110
  z173 := Tryd.sizeOf110
  v173 := Tryd.zeroValue110
  t212 := Tryd.underlying113
  a212 := Tryd.isAgg113
  z212 := Tryd.sizeOf113
  v212 := Tryd.zeroValue113
  t213 := Tryd.underlying115
  a213 := Tryd.isAgg115
  z213 := Tryd.sizeOf115
  t232 := Tryd.underlying119
  a232 := Tryd.isAgg119
  z232 := Tryd.sizeOf119
  v232 := Tryd.zeroValue119
  t233 := Tryd.underlying120
  a233 := Tryd.isAgg120
  z233 := Tryd.sizeOf120
  v233 := Tryd.zeroValue120
  g17 := by kernel_rfl
  g18 := by kernel_rfl
  g19 := by kernel_rfl }
open Go.RowKit Go.Sort Go.Lib in
/-- THE ROAD WITHOUT THE TABLE: 0 <= i < 100. (LAID: no walk: one application.) -/
theorem Tryd.internal_strconv_Itoa_small (i : Nat) (hi : i < 100) (w : World) :
    Calls Tryd.prog 57 #[.int .i64 i] w fun e w' => e = .returned (.string ⟨(Lib.decDigits i).toArray⟩) ∧ w' = w := Any.internal_strconv_Itoa_small Tryd.lays243 i hi w
def Tryd.laysM171_ren : Go.Shelf.Ren := ⟨fun | 171 => 46 | 243 => 57 | 246 => 62 | 283 => 64 | 284 => 65 | 285 => 66 | 286 => 67 | 129 => 63 | 317 => 68 | 318 => 69 | 319 => 70 | 320 => 71 | 337 => 72 | 338 => 73 | n => n, fun | 3 => 3 | 9 => 9 | 2 => 2 | 4 => 4 | 171 => 108 | 0 => 0 | 53 => 66 | 37 => 86 | 5 => 5 | 173 => 110 | 212 => 113 | 51 => 114 | 20 => 20 | 213 => 115 | 46 => 98 | 232 => 119 | 233 => 120 | n => n, fun | 17 => 2 | 18 => 3 | 19 => 4 | n => n⟩
theorem Tryd.laysM171 : Go.Proofs.LaysM.n171 Tryd.prog Tryd.laysM171_ren := {
  mixed := by kernel_rfl
  f129 := Tryd.func63.trans (congrArg some (by kernel_rfl))
  f171 := Tryd.func46.trans (congrArg some (by kernel_rfl))
  f243 := Tryd.func57.trans (congrArg some (by kernel_rfl))
  f246 := Tryd.func62.trans (congrArg some (by kernel_rfl))
  f283 := Tryd.func64.trans (congrArg some (by kernel_rfl))
  f284 := Tryd.func65.trans (congrArg some (by kernel_rfl))
  f285 := Tryd.func66.trans (congrArg some (by kernel_rfl))
  f286 := Tryd.func67.trans (congrArg some (by kernel_rfl))
  f317 := Tryd.func68.trans (congrArg some (by kernel_rfl))
  f318 := Tryd.func69.trans (congrArg some (by kernel_rfl))
  f319 := Tryd.func70.trans (congrArg some (by kernel_rfl))
  f320 := Tryd.func71.trans (congrArg some (by kernel_rfl))
  f337 := Tryd.func72.trans (congrArg some (by kernel_rfl))
  f338 := Tryd.func73.trans (congrArg some (by kernel_rfl))
  t0 := Tryd.underlying0
  a0 := Tryd.isAgg0
  z0 := Tryd.sizeOf0
  v0 := Tryd.zeroValue0
  t2 := Tryd.underlying2
  a2 := Tryd.isAgg2
  z2 := Tryd.sizeOf2
  v2 := Tryd.zeroValue2
  t3 := Tryd.underlying3
  a3 := Tryd.isAgg3
  z3 := Tryd.sizeOf3
  v3 := Tryd.zeroValue3
  t4 := Tryd.underlying4
  a4 := Tryd.isAgg4
  z4 := Tryd.sizeOf4
  v4 := Tryd.zeroValue4
  t5 := Tryd.underlying5
  a5 := Tryd.isAgg5
  z5 := Tryd.sizeOf5
  v5 := Tryd.zeroValue5
  t9 := Tryd.underlying9
  a9 := Tryd.isAgg9
  z9 := Tryd.sizeOf9
  v9 := Tryd.zeroValue9
  t20 := Tryd.underlying20
  a20 := Tryd.isAgg20
  z20 := Tryd.sizeOf20
  v20 := Tryd.zeroValue20
  t37 := Tryd.underlying86
  a37 := Tryd.isAgg86
  z37 := Tryd.sizeOf86
  v37 := Tryd.zeroValue86
  t46 := Tryd.underlying98
  a46 := Tryd.isAgg98
  z46 := Tryd.sizeOf98
  v46 := Tryd.zeroValue98
  t51 := Tryd.underlying114
  a51 := Tryd.isAgg114
  z51 := Tryd.sizeOf114
  v51 := Tryd.zeroValue114
  t53 := Tryd.underlying66
  a53 := Tryd.isAgg66
  z53 := Tryd.sizeOf66
  v53 := Tryd.zeroValue66
  t171 := Tryd.underlying108
  a171 := Tryd.isAgg108
  z171 := Tryd.sizeOf108
  v171 := Tryd.zeroValue108
  t173 := Tryd.underlying110
  a173 := Tryd.isAgg110
  z173 := Tryd.sizeOf110
  v173 := Tryd.zeroValue110
  t212 := Tryd.underlying113
  a212 := Tryd.isAgg113
  z212 := Tryd.sizeOf113
  v212 := Tryd.zeroValue113
  t213 := Tryd.underlying115
  a213 := Tryd.isAgg115
  z213 := Tryd.sizeOf115
  t232 := Tryd.underlying119
  a232 := Tryd.isAgg119
  z232 := Tryd.sizeOf119
  v232 := Tryd.zeroValue119
  t233 := Tryd.underlying120
  a233 := Tryd.isAgg120
  z233 := Tryd.sizeOf120
  v233 := Tryd.zeroValue120
  g17 := by kernel_rfl
  g18 := by kernel_rfl
  g19 := by kernel_rfl
  i0 := by kernel_rfl
  i2 := by kernel_rfl
  i3 := by kernel_rfl
  i4 := by kernel_rfl
  i5 := by kernel_rfl
  i9 := by kernel_rfl
  i20 := by kernel_rfl
  i37 := by kernel_rfl
  i46 := by kernel_rfl
  i51 := by kernel_rfl
  i53 := by kernel_rfl
  i171 := by kernel_rfl
  i173 := by kernel_rfl
  i212 := by kernel_rfl
  i232 := by kernel_rfl
  i233 := by kernel_rfl
  m17 := by kernel_rfl
  m18 := by kernel_rfl
  m19 := by kernel_rfl }
open Go.RowKit Go.Sort Go.Lib in
/-- strconv.Itoa: "Itoa is equivalent to FormatInt(int64(i), 10).": i's DECIMAL NUMERAL ('Lib.itoa': a '-' where i is negative, then the digits), FOR EVERY int. The world behind the call: the world before it, new blocks behind the heap (the library's 'var a [24]byte'), draws. (LAID: no walk: one application.) -/
theorem Tryd.strconv_Itoa (n : Int) (h0 : -9223372036854775808 ≤ n) (h1 : n ≤ 9223372036854775807) (w : World) (htab : Lib.TabIs Tryd.prog w "internal/strconv.uint64pow10" .u64 Lib.pow10Tab) :
    Calls Tryd.prog 46 #[.int .i64 n] w fun e w' => e = .returned (.string ⟨(Lib.itoa n).toArray⟩) ∧ ∃ k os, w' = grow (w.drewN k) os := Any.strconv_Itoa Tryd.laysM171 n h0 h1 w htab
def Tryd.lays171_ren : Go.Shelf.Ren := ⟨fun | 171 => 46 | 243 => 57 | 246 => 62 | 283 => 64 | 284 => 65 | 285 => 66 | 286 => 67 | 129 => 63 | 317 => 68 | 318 => 69 | 319 => 70 | 320 => 71 | 337 => 72 | 338 => 73 | n => n, fun | 3 => 3 | 9 => 9 | 2 => 2 | 4 => 4 | 171 => 108 | 0 => 0 | 53 => 66 | 37 => 86 | 5 => 5 | 173 => 110 | 212 => 113 | 51 => 114 | 20 => 20 | 213 => 115 | 46 => 98 | 232 => 119 | 233 => 120 | n => n, fun | 17 => 2 | 18 => 3 | 19 => 4 | n => n⟩
theorem Tryd.lays171 : Go.Proofs.Lays.n171 Tryd.prog Tryd.lays171_ren := {
  mixed := by kernel_rfl
  f129 := Tryd.func63.trans (congrArg some (by kernel_rfl))
  f171 := Tryd.func46.trans (congrArg some (by kernel_rfl))
  f243 := Tryd.func57.trans (congrArg some (by kernel_rfl))
  f246 := Tryd.func62.trans (congrArg some (by kernel_rfl))
  f283 := Tryd.func64.trans (congrArg some (by kernel_rfl))
  f284 := Tryd.func65.trans (congrArg some (by kernel_rfl))
  f285 := Tryd.func66.trans (congrArg some (by kernel_rfl))
  f286 := Tryd.func67.trans (congrArg some (by kernel_rfl))
  f317 := Tryd.func68.trans (congrArg some (by kernel_rfl))
  f318 := Tryd.func69.trans (congrArg some (by kernel_rfl))
  f319 := Tryd.func70.trans (congrArg some (by kernel_rfl))
  f320 := Tryd.func71.trans (congrArg some (by kernel_rfl))
  f337 := Tryd.func72.trans (congrArg some (by kernel_rfl))
  f338 := Tryd.func73.trans (congrArg some (by kernel_rfl))
  t0 := Tryd.underlying0
  a0 := Tryd.isAgg0
  z0 := Tryd.sizeOf0
  v0 := Tryd.zeroValue0
  t2 := Tryd.underlying2
  a2 := Tryd.isAgg2
  z2 := Tryd.sizeOf2
  v2 := Tryd.zeroValue2
  t3 := Tryd.underlying3
  a3 := Tryd.isAgg3
  z3 := Tryd.sizeOf3
  v3 := Tryd.zeroValue3
  t4 := Tryd.underlying4
  a4 := Tryd.isAgg4
  z4 := Tryd.sizeOf4
  v4 := Tryd.zeroValue4
  t5 := Tryd.underlying5
  a5 := Tryd.isAgg5
  z5 := Tryd.sizeOf5
  v5 := Tryd.zeroValue5
  t9 := Tryd.underlying9
  a9 := Tryd.isAgg9
  z9 := Tryd.sizeOf9
  v9 := Tryd.zeroValue9
  t20 := Tryd.underlying20
  a20 := Tryd.isAgg20
  z20 := Tryd.sizeOf20
  v20 := Tryd.zeroValue20
  t37 := Tryd.underlying86
  a37 := Tryd.isAgg86
  z37 := Tryd.sizeOf86
  v37 := Tryd.zeroValue86
  t46 := Tryd.underlying98
  a46 := Tryd.isAgg98
  z46 := Tryd.sizeOf98
  v46 := Tryd.zeroValue98
  t51 := Tryd.underlying114
  a51 := Tryd.isAgg114
  z51 := Tryd.sizeOf114
  v51 := Tryd.zeroValue114
  t53 := Tryd.underlying66
  a53 := Tryd.isAgg66
  z53 := Tryd.sizeOf66
  v53 := Tryd.zeroValue66
  t171 := Tryd.underlying108
  a171 := Tryd.isAgg108
  z171 := Tryd.sizeOf108
  v171 := Tryd.zeroValue108
  t173 := Tryd.underlying110
  a173 := Tryd.isAgg110
  z173 := Tryd.sizeOf110
  v173 := Tryd.zeroValue110
  t212 := Tryd.underlying113
  a212 := Tryd.isAgg113
  z212 := Tryd.sizeOf113
  v212 := Tryd.zeroValue113
  t213 := Tryd.underlying115
  a213 := Tryd.isAgg115
  z213 := Tryd.sizeOf115
  t232 := Tryd.underlying119
  a232 := Tryd.isAgg119
  z232 := Tryd.sizeOf119
  v232 := Tryd.zeroValue119
  t233 := Tryd.underlying120
  a233 := Tryd.isAgg120
  z233 := Tryd.sizeOf120
  v233 := Tryd.zeroValue120
  g17 := by kernel_rfl
  g18 := by kernel_rfl
  g19 := by kernel_rfl }
open Go.RowKit Go.Sort Go.Lib in
/-- THE ROAD WITHOUT THE TABLE: 0 <= i < 100: NO PREMISE ON THE WORLD, AND THE WORLD IS AS IT WAS: a row that keeps its argument in that range need list no table ('laid = []'). (LAID: no walk: one application.) -/
theorem Tryd.strconv_Itoa_small (i : Nat) (hi : i < 100) (w : World) :
    Calls Tryd.prog 46 #[.int .i64 i] w fun e w' => e = .returned (.string ⟨(Lib.decDigits i).toArray⟩) ∧ w' = w := Any.strconv_Itoa_small Tryd.lays171 i hi w
def Tryd.lays264_ren : Go.Shelf.Ren := ⟨fun | 264 => 36 | n => n, fun | 53 => 66 | 46 => 98 | n => n, fun | n => n⟩
theorem Tryd.lays264 : Go.Proofs.Lays.n264 Tryd.prog Tryd.lays264_ren := {
  mixed := by kernel_rfl
  f264 := Tryd.func36.trans (congrArg some (by kernel_rfl))
  t46 := Tryd.underlying98
  a46 := Tryd.isAgg98
  z46 := Tryd.sizeOf98
  v46 := Tryd.zeroValue98
  t53 := Tryd.underlying66
  a53 := Tryd.isAgg66
  z53 := Tryd.sizeOf66
  v53 := Tryd.zeroValue66 }
open Go.RowKit Go.Lib in
theorem Tryd.bits_Mul64 (x y : Nat) (hx : x < 18446744073709551616) (hy : y < 18446744073709551616) (w : World) :
    Calls Tryd.prog 36 #[.int .u64 x, .int .u64 y] w fun e w' => e = .returned (.tuple #[.int .u64 ((x * y / 18446744073709551616 : Nat) : Int), .int .u64 ((x * y % 18446744073709551616 : Nat) : Int)]) ∧ w' = w := Any.bits_Mul64 Tryd.lays264 x y hx hy w
def Tryd.lays240_ren : Go.Shelf.Ren := ⟨fun | 240 => 56 | 276 => 61 | n => n, fun | 0 => 0 | 4 => 4 | 9 => 9 | 20 => 20 | 37 => 86 | 70 => 85 | 72 => 88 | 164 => 105 | n => n, fun | n => n⟩
theorem Tryd.lays240 : Go.Proofs.Lays.n240 Tryd.prog Tryd.lays240_ren := {
  mixed := by kernel_rfl
  f240 := Tryd.func56.trans (congrArg some (by kernel_rfl))
  f276 := Tryd.func61.trans (congrArg some (by kernel_rfl))
  t0 := Tryd.underlying0
  a0 := Tryd.isAgg0
  z0 := Tryd.sizeOf0
  v0 := Tryd.zeroValue0
  t4 := Tryd.underlying4
  a4 := Tryd.isAgg4
  z4 := Tryd.sizeOf4
  v4 := Tryd.zeroValue4
  t9 := Tryd.underlying9
  a9 := Tryd.isAgg9
  z9 := Tryd.sizeOf9
  v9 := Tryd.zeroValue9
  t20 := Tryd.underlying20
  a20 := Tryd.isAgg20
  z20 := Tryd.sizeOf20
  v20 := Tryd.zeroValue20
  t70 := Tryd.underlying85
  a70 := Tryd.isAgg85
  z70 := Tryd.sizeOf85
  v70 := Tryd.zeroValue85
  t72 := Tryd.underlying88
  a72 := Tryd.isAgg88
  z72 := Tryd.sizeOf88
  v72 := Tryd.zeroValue88
  t164 := Tryd.underlying105
  a164 := Tryd.isAgg105
  z164 := Tryd.sizeOf105
  v164 := Tryd.zeroValue105 }
theorem Tryd.Builder_X72_240 : Builder.X72 Tryd.prog Tryd.lays240_ren := {
  sizeBuilder := by kernel_rfl
  liesBuilder := by kernel_rfl }
open Go.RowKit in
/-- (*strings.Builder).copyCheck (what every writing method calls first): behind it the builder is 'used': 'addr' holds its own address; its bytes are as they were. (LAID: no walk: one application.) -/
theorem Tryd.Builder_copyCheck (B b : Nat) (bs : List Value) (w : World) (h : Lib.IsBuilder 88 5 B b bs w) :
    Calls Tryd.prog 56 #[.pointer (some ⟨b, 0, none⟩)] w fun e w' => e = .returned (.tuple #[]) ∧ (Lib.BuilderAt 88 5 B b (.pointer (some ⟨b, 0, none⟩)) bs w' ∧ Below B w w') := Any.Builder_copyCheck Tryd.lays240 Tryd.Builder_X72_240 B b bs w h
open Go.RowKit in
/-- (*strings.Builder).copyCheck (what every writing method calls first): behind it the builder is 'used': 'addr' holds its own address; its bytes are as they were. (THE FORM '_f': OF A BUILDER WHOSE BUFFER's HEAD MAY BE FROZEN: 'Lib.IsBuilderF': one that 'String()' has read.) (LAID: no walk: one application.) -/
theorem Tryd.Builder_copyCheck_f (B b : Nat) (bs : List Value) (w : World) (h : Lib.IsBuilderF 88 5 B b bs w) :
    Calls Tryd.prog 56 #[.pointer (some ⟨b, 0, none⟩)] w fun e w' => e = .returned (.tuple #[]) ∧ (Lib.BuilderAtF 88 5 B b (.pointer (some ⟨b, 0, none⟩)) bs w' ∧ Below B w w') := Any.Builder_copyCheck_f Tryd.lays240 Tryd.Builder_X72_240 B b bs w h
open Go.RowKit in
/-- (*strings.Builder).copyCheck (what every writing method calls first): behind it the builder is 'used': 'addr' holds its own address; its bytes are as they were. THE FORM '_k': OVER 'Lib.IsBuilderF' (a builder that 'String()' may have read), AND WITH THE FRAME THAT REACHES ABOVE THE BUILDER: 'Lib.OthersKept': every block that is not b and is no row of uint8's stands as it stood: the iterator of a range among them.' has read.) (LAID: no walk: one application.) -/
theorem Tryd.Builder_copyCheck_k (B b : Nat) (bs : List Value) (w : World) (h : Lib.IsBuilderF 88 5 B b bs w) :
    Calls Tryd.prog 56 #[.pointer (some ⟨b, 0, none⟩)] w fun e w' => e = .returned (.tuple #[]) ∧ (Lib.BuilderAtF 88 5 B b (.pointer (some ⟨b, 0, none⟩)) bs w' ∧ Below B w w' ∧ Lib.OthersKept 5 (some b) w w') := Any.Builder_copyCheck_k Tryd.lays240 Tryd.Builder_X72_240 B b bs w h
open Go.RowKit in
theorem Tryd.Builder_copyCheck_kc (B b : Nat) (bs : List Value) (w : World) (h : Lib.IsBuilderF 88 5 B b bs w) :
    Calls Tryd.prog 56 #[.pointer (some ⟨b, 0, none⟩)] w fun e w' => e = .returned (.tuple #[]) ∧ (Lib.BuilderAtF 88 5 B b (.pointer (some ⟨b, 0, none⟩)) bs w' ∧ Below B w w' ∧ Lib.OthersKept 5 (some b) w w') ∧ w'.cell? ⟨b, 1, none⟩ = w.cell? ⟨b, 1, none⟩ := Any.Builder_copyCheck_kc Tryd.lays240 Tryd.Builder_X72_240 B b bs w h
def Tryd.lays166_ren : Go.Shelf.Ren := ⟨fun | 166 => 44 | 240 => 56 | 276 => 61 | n => n, fun | 0 => 0 | 3 => 3 | 4 => 4 | 5 => 5 | 9 => 9 | 20 => 20 | 37 => 86 | 70 => 85 | 72 => 88 | 75 => 90 | 80 => 95 | 164 => 105 | n => n, fun | n => n⟩
theorem Tryd.lays166 : Go.Proofs.Lays.n166 Tryd.prog Tryd.lays166_ren := {
  mixed := by kernel_rfl
  f166 := Tryd.func44.trans (congrArg some (by kernel_rfl))
  f240 := Tryd.func56.trans (congrArg some (by kernel_rfl))
  f276 := Tryd.func61.trans (congrArg some (by kernel_rfl))
  t0 := Tryd.underlying0
  a0 := Tryd.isAgg0
  z0 := Tryd.sizeOf0
  v0 := Tryd.zeroValue0
  t3 := Tryd.underlying3
  a3 := Tryd.isAgg3
  z3 := Tryd.sizeOf3
  v3 := Tryd.zeroValue3
  t4 := Tryd.underlying4
  a4 := Tryd.isAgg4
  z4 := Tryd.sizeOf4
  v4 := Tryd.zeroValue4
  t9 := Tryd.underlying9
  a9 := Tryd.isAgg9
  z9 := Tryd.sizeOf9
  v9 := Tryd.zeroValue9
  t20 := Tryd.underlying20
  a20 := Tryd.isAgg20
  z20 := Tryd.sizeOf20
  v20 := Tryd.zeroValue20
  t37 := Tryd.underlying86
  a37 := Tryd.isAgg86
  z37 := Tryd.sizeOf86
  v37 := Tryd.zeroValue86
  t70 := Tryd.underlying85
  a70 := Tryd.isAgg85
  z70 := Tryd.sizeOf85
  v70 := Tryd.zeroValue85
  t72 := Tryd.underlying88
  a72 := Tryd.isAgg88
  z72 := Tryd.sizeOf88
  v72 := Tryd.zeroValue88
  t75 := Tryd.underlying90
  a75 := Tryd.isAgg90
  z75 := Tryd.sizeOf90
  v75 := Tryd.zeroValue90
  t164 := Tryd.underlying105
  a164 := Tryd.isAgg105
  z164 := Tryd.sizeOf105
  v164 := Tryd.zeroValue105 }
theorem Tryd.Builder_Extra_166 : Builder.Extra Tryd.prog Tryd.lays166_ren := {
  sizeBuilder := by kernel_rfl
  liesBuilder := by kernel_rfl
  t5 := Tryd.underlying5
  a5 := Tryd.isAgg5
  z5 := Tryd.sizeOf5
  v5 := Tryd.zeroValue5
  infoByte := by kernel_rfl
  cellsByte := by kernel_rfl
  sizeByte := by kernel_rfl
  neB5 := by decide }
open Go.RowKit in
/-- (*strings.Builder).WriteString: "WriteString appends the contents of s to b's buffer. It returns the length of s and a nil error.": UNDER Go's OWN LIMIT: the new length takes at most 2^47 bytes. (LAID: no walk: one application.) -/
theorem Tryd.Builder_WriteString (B b : Nat) (bs : List Value) (s : ByteArray) (w : World) (h : Lib.IsBuilder 88 5 B b bs w) (hlen : bs.length + s.size ≤ 140737488355328) (hBw : B ≤ w.heap.size) :
    Calls Tryd.prog 44 #[.pointer (some ⟨b, 0, none⟩), .string s] w fun e w' => e = .returned (.tuple #[.int .i64 s.size, .nilIface]) ∧ (Lib.BuilderAt 88 5 B b (.pointer (some ⟨b, 0, none⟩)) (bs ++ Lib.strCells s) w' ∧ Below B w w') := Any.Builder_WriteString Tryd.lays166 Tryd.Builder_Extra_166 B b bs s w h hlen hBw
open Go.RowKit in
/-- (*strings.Builder).WriteString: "WriteString appends the contents of s to b's buffer. It returns the length of s and a nil error.": UNDER Go's OWN LIMIT: the new length takes at most 2^47 bytes. (THE FORM '_f': OF A BUILDER THAT 'String()' HAS READ, TOO: the bytes go in BEHIND what is frozen, or, where there is no room, all goes over into a new row.) (LAID: no walk: one application.) -/
theorem Tryd.Builder_WriteString_f (B b : Nat) (bs : List Value) (s : ByteArray) (w : World) (h : Lib.IsBuilderF 88 5 B b bs w) (hlen : bs.length + s.size ≤ 140737488355328) (hBw : B ≤ w.heap.size) :
    Calls Tryd.prog 44 #[.pointer (some ⟨b, 0, none⟩), .string s] w fun e w' => e = .returned (.tuple #[.int .i64 s.size, .nilIface]) ∧ (Lib.BuilderAtF 88 5 B b (.pointer (some ⟨b, 0, none⟩)) (bs ++ Lib.strCells s) w' ∧ Below B w w') := Any.Builder_WriteString_f Tryd.lays166 Tryd.Builder_Extra_166 B b bs s w h hlen hBw
open Go.RowKit in
/-- (*strings.Builder).WriteString: "WriteString appends the contents of s to b's buffer. It returns the length of s and a nil error.": UNDER Go's OWN LIMIT: the new length takes at most 2^47 bytes. THE FORM '_k': OVER 'Lib.IsBuilderF' (a builder that 'String()' may have read), AND WITH THE FRAME THAT REACHES ABOVE THE BUILDER: 'Lib.OthersKept': every block that is not b and is no row of uint8's stands as it stood: the iterator of a range among them.' HAS READ, TOO: the bytes go in BEHIND what is frozen, or, where there is no room, all goes over into a new row.) (LAID: no walk: one application.) -/
theorem Tryd.Builder_WriteString_k (B b : Nat) (bs : List Value) (s : ByteArray) (w : World) (h : Lib.IsBuilderF 88 5 B b bs w) (hlen : bs.length + s.size ≤ 140737488355328) (hBw : B ≤ w.heap.size) :
    Calls Tryd.prog 44 #[.pointer (some ⟨b, 0, none⟩), .string s] w fun e w' => e = .returned (.tuple #[.int .i64 s.size, .nilIface]) ∧ (Lib.BuilderAtF 88 5 B b (.pointer (some ⟨b, 0, none⟩)) (bs ++ Lib.strCells s) w' ∧ Below B w w' ∧ Lib.OthersKept 5 (some b) w w') := Any.Builder_WriteString_k Tryd.lays166 Tryd.Builder_Extra_166 B b bs s w h hlen hBw
open Go.RowKit in
theorem Tryd.Builder_WriteString_kc (B b : Nat) (bs : List Value) (s : ByteArray) (w : World) (h : Lib.IsBuilderF 88 5 B b bs w) (hlen : bs.length + s.size ≤ 140737488355328) (hBw : B ≤ w.heap.size) :
    Calls Tryd.prog 44 #[.pointer (some ⟨b, 0, none⟩), .string s] w fun e w' => e = .returned (.tuple #[.int .i64 s.size, .nilIface]) ∧ (Lib.BuilderAtF 88 5 B b (.pointer (some ⟨b, 0, none⟩)) (bs ++ Lib.strCells s) w' ∧ Below B w w' ∧ Lib.OthersKept 5 (some b) w w') ∧ ∀ v0, w.cell? ⟨b, 1, none⟩ = some v0 → ∃ v1, w'.cell? ⟨b, 1, none⟩ = some v1 ∧ v0.capOf ≤ v1.capOf := Any.Builder_WriteString_kc Tryd.lays166 Tryd.Builder_Extra_166 B b bs s w h hlen hBw
end Go.Proofs
namespace Go.Proofs.YtdfiicpikcdokaaDoor
set_option linter.unusedSimpArgs false
set_option linter.unusedVariables false
open Go.RowKit
set_option maxRecDepth 20000

theorem Tryd.copy_fresh (b : Nat) (w : World) (h0 : w.cell? ⟨b, 0, none⟩ = some (.pointer none)) (hsh : w.shape? b = some (88, 2)) (hfz : w.frozen? ⟨b, 0, none⟩ = false) :
    Calls Tryd.prog 56 #[.pointer (some ⟨b, 0, none⟩)] w fun e w' => e = .returned (.tuple #[]) ∧ w' = w.setCell ⟨b, 0, none⟩ (.pointer (some ⟨b, 0, none⟩)) := Any.Builder_copyCheck_fresh Tryd.lays240 Tryd.Builder_X72_240 b w h0 hsh hfz
theorem Tryd.copy_used (b : Nat) (w : World) (h0 : w.cell? ⟨b, 0, none⟩ = some (.pointer (some ⟨b, 0, none⟩))) :
    Calls Tryd.prog 56 #[.pointer (some ⟨b, 0, none⟩)] w fun e w' => e = .returned (.tuple #[]) ∧ w' = w := Any.Builder_copyCheck_used Tryd.lays240 Tryd.Builder_X72_240 b w h0
/-- A Builder's variable in the world. -/
theorem bld_at {R : RO} {ι : IM} {h : LH} {B : Nat} {w : World} (hr : Rep R ι h B w) {k ver : Nat} {t : TypeId} {c0 c1 : LV} (hk : k < h.n) (hf : h.f k = (ver, .tbox t [c0, c1])) :
    (ι k).o = 0 ∧ (ι k).m = 2 ∧ ∃ v0 v1, w.heap[(ι k).b]? = some (.cells #[v0, v1] t (0, 0)) ∧ Rv R ι h c0 v0 ∧ Rv R ι h c1 v1 := by
  have hty := hr.ty k hk
  rw [hf] at hty
  obtain ⟨h1, h2, h3⟩ := hty
  have hm : (ι k).m ≠ 0 := by rw [h2]; simp
  obtain ⟨c0', hw0⟩ := h3 hm
  have hc := hr.cells k hk (by rw [hf]; rfl) (by rw [hf]; rfl) hm
  obtain ⟨cl, e, hw, hs, _, _, hcl⟩ := hc.ex
  rw [hf] at hcl
  rw [h1, h2] at hs
  have e1 : e = t := by
    rw [hw] at hw0
    injection hw0 with hw0
    injection hw0 with _ hw0 _
  subst e1
  obtain ⟨v0, a1, a2⟩ := hcl 0 0 c0 rfl
  obtain ⟨v1, b1, b2⟩ := hcl 0 1 c1 rfl
  rw [h1] at a1 b1
  simp only [LO.sz, Nat.zero_mul, Nat.zero_add, Nat.add_zero] at a1 b1
  refine ⟨h1, h2, v0, v1, ?_, a2, b2⟩
  rw [hw]
  have : cl = #[v0, v1] := by
    apply Array.ext_getElem?
    intro i
    match i with
    | 0 => rw [a1]; rfl
    | 1 => rw [b1]; rfl
    | i + 2 => rw [Array.getElem?_eq_none (by rw [hs]; simp), Array.getElem?_eq_none (by simp)]
  rw [this]
theorem lc_copy_fresh {h : LH} {k ver : Nat} {c1 : LV} (hk : k < h.n) (hf : h.f k = (ver, .tbox 88 [.sc (.pointer none), c1])) :
    LCall Tryd.prog 56 [.ptr k ver 0 0 0] h (.tup []) (h.set k (ver, .tbox 88 [.ptr k ver 0 0 0, c1])) := by
  rintro B R ι w ⟨vs⟩ hB hr hsz ha
  match vs, hsz with
  | [v], _ =>
    obtain ⟨h1, h2, v0, v1, hw, hv0, hv1⟩ := bld_at hr hk hf
    have hp : Rv R ι h (.ptr k ver 0 0 0) v := ha 0 _ rfl
    obtain ⟨a, rfl, _, _, hpl⟩ := hp.ptr_inv
    have hpl := hpl (by rw [hf])
    have e0 : a = ⟨(ι k).b, 0, none⟩ := by rw [hpl, h1]
    have ev := hv0.sc_inv.1
    subst ev
    have hst := st1_ok (P := Tryd.prog) hr hB (sz := 0) (i := 0) (c := 0) (a := a) (lv := .ptr k ver 0 0 0) hk (by rw [hf]) hpl (by rw [hf]; exact ⟨rfl, rfl, by simp, rfl⟩) hp
    rw [hf] at hst
    subst e0
    refine (Tryd.copy_fresh (ι k).b w (by simp [World.cell?, hw]) (by simp [World.shape?, hw]) (by simp [World.frozen?, hw])).mono ?_
    rintro e w' ⟨rfl, rfl⟩
    exact ⟨_, R, ι, rfl, hst.2, .tup _ _ rfl (fun i c hi => by simp at hi)⟩
theorem lc_copy_used {h : LH} {k ver : Nat} {c1 : LV} (hk : k < h.n) (hf : h.f k = (ver, .tbox 88 [.ptr k ver 0 0 0, c1])) :
    LCall Tryd.prog 56 [.ptr k ver 0 0 0] h (.tup []) h := by
  rintro B R ι w ⟨vs⟩ hB hr hsz ha
  match vs, hsz with
  | [v], _ =>
    obtain ⟨h1, h2, v0, v1, hw, hv0, hv1⟩ := bld_at hr hk hf
    have hp : Rv R ι h (.ptr k ver 0 0 0) v := ha 0 _ rfl
    obtain ⟨a, rfl, _, _, hpl⟩ := hp.ptr_inv
    have hpl := hpl (by rw [hf])
    have e0 : a = ⟨(ι k).b, 0, none⟩ := by rw [hpl, h1]
    obtain ⟨a', rfl, _, _, hpl'⟩ := hv0.ptr_inv
    have hpl' := hpl' (by rw [hf])
    have e0' : a' = ⟨(ι k).b, 0, none⟩ := by rw [hpl', h1]
    subst e0 e0'
    refine (Tryd.copy_used (ι k).b w (by simp [World.cell?, hw])).mono ?_
    rintro e w' ⟨rfl, rfl⟩
    exact ⟨_, R, ι, rfl, Trans.refl hr hB, .tup _ _ rfl (fun i c hi => by simp at hi)⟩
end Go.Proofs.YtdfiicpikcdokaaDoor
namespace Go.Proofs.YtdfiicpikcdokaaDoor
set_option linter.unusedSimpArgs false
set_option linter.unusedVariables false
open Go.RowKit
set_option maxRecDepth 20000

theorem set_self {h : LH} {k : Nat} {vo : Nat × LO} : (h.set k vo).f k = vo := by simp [LH.set]
theorem set_ne {h : LH} {k j : Nat} {vo : Nat × LO} (hne : j ≠ k) : (h.set k vo).f j = h.f j := by simp [LH.set, hne]
theorem set_n {h : LH} {k : Nat} {vo : Nat × LO} : (h.set k vo).n = h.n := rfl
theorem strI_len (s : ByteArray) : (strI s).length = s.size := by simp [strI]
def bysF (xs : List Int) (i : Nat) : List LV := [.sc (.int .u8 (xs.getD i 0))]
/-- The Builder's variable, and its bytes, behind some writes. -/
def bldS (h : LH) (kb vb kr vr : Nat) (xs : List Int) : LH := (h.set kr (vr, .byt 5 xs)).set kb (vb, .tbox 88 [.ptr kb vb 0 0 0, .sl kr vr 1 0 xs.length])
theorem lc_ws_row {h : LH} {kb vb kr vr : Nat} {xs : List Int} (hkb : kb < h.n) (hb : h.f kb = (vb, .tbox 88 [.ptr kb vb 0 0 0, .sl kr vr 1 0 xs.length])) (hkr : kr < h.n) (hr : h.f kr = (vr, .byt 5 xs)) (hne : kr ≠ kb)
    (s : ByteArray) (hs : 0 < s.size) (hroom : xs.length + s.size ≤ 1000000) :
    LCall Tryd.prog 44 [.ptr kb vb 0 0 0, .sc (.string s)] h (.tup [.sc (.int .i64 s.size), .sc .nilIface]) (bldS h kb vb kr (vr + 1) (xs ++ strI s)) := by
  refine lcall_of_lwpH Tryd.func44 comp44 (show 2 ≤ Tryd.f44.ntmps by decide) ?_
  unfold cf44 rf44
  simp only [↓EVP0, EVQ0, EVQ1, EVQ2, EVQ3, EVQ4, EVA, EVK, true_and, ↓reduceIte, Nat.reduceEqDiff, Nat.reduceAdd, Nat.reduceSub, Nat.reduceMul, Nat.reduceLT, Nat.reduceLeDiff, reduceCtorEq, Int.reduceToNat, Int.reduceLT, Int.reduceLE, Int.reduceAdd, Int.reduceSub, Int.reduceMul, Int.reduceNeg, Int.reduceEq, Nat.reduceMod, forall_eq_or_imp, forall_eq, forall_const, cond_true, cond_false, decide_true, decide_false, true_imp_iff, implies_true, Int.cast_ofNat_Int, forall_eq']
  refine callK_mut (lc_copy_used hkb hb) ?_
  simp only [↓EVP0, EVQ0, EVQ1, EVQ2, EVQ3, EVQ4, EVA, EVK, true_and, ↓reduceIte, Nat.reduceEqDiff, Nat.reduceAdd, Nat.reduceSub, Nat.reduceMul, Nat.reduceLT, Nat.reduceLeDiff, reduceCtorEq, Int.reduceToNat, Int.reduceLT, Int.reduceLE, Int.reduceAdd, Int.reduceSub, Int.reduceMul, Int.reduceNeg, Int.reduceEq, Nat.reduceMod, forall_eq_or_imp, forall_eq, forall_const, cond_true, cond_false, decide_true, decide_false, true_imp_iff, implies_true, Int.cast_ofNat_Int, forall_eq']
  simp only [hb]
  simp only [↓EVP0, EVQ0, EVQ1, EVQ2, EVQ3, EVQ4, EVA, EVK, true_and, ↓reduceIte, Nat.reduceEqDiff, Nat.reduceAdd, Nat.reduceSub, Nat.reduceMul, Nat.reduceLT, Nat.reduceLeDiff, reduceCtorEq, Int.reduceToNat, Int.reduceLT, Int.reduceLE, Int.reduceAdd, Int.reduceSub, Int.reduceMul, Int.reduceNeg, Int.reduceEq, Nat.reduceMod, forall_eq_or_imp, forall_eq, forall_const, cond_true, cond_false, decide_true, decide_false, true_imp_iff, implies_true, Int.cast_ofNat_Int, forall_eq']
  simp only [hr, set_self, set_ne (Ne.symm hne), set_n, hb]
  simp only [↓EVP0, EVQ0, EVQ1, EVQ2, EVQ3, EVQ4, EVA, EVK, true_and, ↓reduceIte, Nat.reduceEqDiff, Nat.reduceAdd, Nat.reduceSub, Nat.reduceMul, Nat.reduceLT, Nat.reduceLeDiff, reduceCtorEq, Int.reduceToNat, Int.reduceLT, Int.reduceLE, Int.reduceAdd, Int.reduceSub, Int.reduceMul, Int.reduceNeg, Int.reduceEq, Nat.reduceMod, forall_eq_or_imp, forall_eq, forall_const, cond_true, cond_false, decide_true, decide_false, true_imp_iff, implies_true, Int.cast_ofNat_Int, forall_eq']
  refine ⟨hkb, by rw [strI_len]; exact hs, hkr, by unfold appRoom; rw [strI_len]; omega, hkb, ?_⟩
  unfold finH bldS
  simp only [↓EVP0, EVQ0, EVQ1, EVQ2, EVQ3, EVQ4, EVA, EVK, true_and, ↓reduceIte, Nat.reduceEqDiff, Nat.reduceAdd, Nat.reduceSub, Nat.reduceMul, Nat.reduceLT, Nat.reduceLeDiff, reduceCtorEq, Int.reduceToNat, Int.reduceLT, Int.reduceLE, Int.reduceAdd, Int.reduceSub, Int.reduceMul, Int.reduceNeg, Int.reduceEq, Nat.reduceMod, forall_eq_or_imp, forall_eq, forall_const, cond_true, cond_false, decide_true, decide_false, true_imp_iff, implies_true, Int.cast_ofNat_Int, forall_eq']
  rw [List.length_append]
theorem bytR (c : Int) : ∀ i, i < 1 → bysF [c] i = List.take 1 (List.drop (i * 1) [LV.sc (.int .u8 c)]) := by
  intro i hi
  obtain rfl : i = 0 := by omega
  rfl
theorem bytR2 (c : Int) : ∀ i, i < 1 → isU8 ((bysF [c] i).getD 0 .any) := by
  intro i hi
  obtain rfl : i = 0 := by omega
  exact trivial
theorem yB_one (c : Int) : yB (.rsl 1 1 (bysF [c])) = [c] := rfl
/-- The same behind the first write. -/
def bldN (h : LH) (kb vb : Nat) (xs : List Int) : LH := ((h.set kb (vb, .tbox 88 [.ptr kb vb 0 0 0, .nsl])).push (.byt 5 xs)).set kb (vb, .tbox 88 [.ptr kb vb 0 0 0, .sl h.n 0 1 0 xs.length])
theorem push_old {h : LH} {k : Nat} {ob : LO} (hk : k < h.n) : (h.push ob).f k = h.f k := by simp [LH.push, Nat.ne_of_lt hk]
theorem push_n {h : LH} {ob : LO} : (h.push ob).n = h.n + 1 := rfl
theorem lc_ws_new {h : LH} {kb vb : Nat} (hkb : kb < h.n) (hb : h.f kb = (vb, .tbox 88 [.sc (.pointer none), .nsl]))
    (s : ByteArray) (hs : 0 < s.size) (hroom : s.size ≤ 1000000) :
    LCall Tryd.prog 44 [.ptr kb vb 0 0 0, .sc (.string s)] h (.tup [.sc (.int .i64 s.size), .sc .nilIface]) (bldN h kb vb (strI s)) := by
  refine lcall_of_lwpH Tryd.func44 comp44 (show 2 ≤ Tryd.f44.ntmps by decide) ?_
  unfold cf44 rf44
  simp only [↓EVP0, EVQ0, EVQ1, EVQ2, EVQ3, EVQ4, EVA, EVK, true_and, ↓reduceIte, Nat.reduceEqDiff, Nat.reduceAdd, Nat.reduceSub, Nat.reduceMul, Nat.reduceLT, Nat.reduceLeDiff, reduceCtorEq, Int.reduceToNat, Int.reduceLT, Int.reduceLE, Int.reduceAdd, Int.reduceSub, Int.reduceMul, Int.reduceNeg, Int.reduceEq, Nat.reduceMod, forall_eq_or_imp, forall_eq, forall_const, cond_true, cond_false, decide_true, decide_false, true_imp_iff, implies_true, Int.cast_ofNat_Int, forall_eq']
  refine callK_mut (lc_copy_fresh hkb hb) ?_
  simp only [↓EVP0, EVQ0, EVQ1, EVQ2, EVQ3, EVQ4, EVA, EVK, true_and, ↓reduceIte, Nat.reduceEqDiff, Nat.reduceAdd, Nat.reduceSub, Nat.reduceMul, Nat.reduceLT, Nat.reduceLeDiff, reduceCtorEq, Int.reduceToNat, Int.reduceLT, Int.reduceLE, Int.reduceAdd, Int.reduceSub, Int.reduceMul, Int.reduceNeg, Int.reduceEq, Nat.reduceMod, forall_eq_or_imp, forall_eq, forall_const, cond_true, cond_false, decide_true, decide_false, true_imp_iff, implies_true, Int.cast_ofNat_Int, forall_eq']
  simp only [set_self, set_n]
  simp only [↓EVP0, EVQ0, EVQ1, EVQ2, EVQ3, EVQ4, EVA, EVK, true_and, ↓reduceIte, Nat.reduceEqDiff, Nat.reduceAdd, Nat.reduceSub, Nat.reduceMul, Nat.reduceLT, Nat.reduceLeDiff, reduceCtorEq, Int.reduceToNat, Int.reduceLT, Int.reduceLE, Int.reduceAdd, Int.reduceSub, Int.reduceMul, Int.reduceNeg, Int.reduceEq, Nat.reduceMod, forall_eq_or_imp, forall_eq, forall_const, cond_true, cond_false, decide_true, decide_false, true_imp_iff, implies_true, Int.cast_ofNat_Int, forall_eq']
  simp only [push_old (h := h.set kb _) hkb, push_n, set_self, set_n]
  simp only [↓EVP0, EVQ0, EVQ1, EVQ2, EVQ3, EVQ4, EVA, EVK, true_and, ↓reduceIte, Nat.reduceEqDiff, Nat.reduceAdd, Nat.reduceSub, Nat.reduceMul, Nat.reduceLT, Nat.reduceLeDiff, reduceCtorEq, Int.reduceToNat, Int.reduceLT, Int.reduceLE, Int.reduceAdd, Int.reduceSub, Int.reduceMul, Int.reduceNeg, Int.reduceEq, Nat.reduceMod, forall_eq_or_imp, forall_eq, forall_const, cond_true, cond_false, decide_true, decide_false, true_imp_iff, implies_true, Int.cast_ofNat_Int, forall_eq']
  refine ⟨hkb, by rw [strI_len]; exact hs, by unfold appRoom; rw [strI_len]; omega, by omega, ?_⟩
  unfold finH bldN
  simp only [↓EVP0, EVQ0, EVQ1, EVQ2, EVQ3, EVQ4, EVA, EVK, true_and, ↓reduceIte, Nat.reduceEqDiff, Nat.reduceAdd, Nat.reduceSub, Nat.reduceMul, Nat.reduceLT, Nat.reduceLeDiff, reduceCtorEq, Int.reduceToNat, Int.reduceLT, Int.reduceLE, Int.reduceAdd, Int.reduceSub, Int.reduceMul, Int.reduceNeg, Int.reduceEq, Nat.reduceMod, forall_eq_or_imp, forall_eq, forall_const, cond_true, cond_false, decide_true, decide_false, true_imp_iff, implies_true, Int.cast_ofNat_Int, forall_eq']
end Go.Proofs.YtdfiicpikcdokaaDoor
namespace Go.Proofs.YtdfiicpikcdokaaDoor
set_option linter.unusedSimpArgs false
set_option linter.unusedVariables false
open Go.RowKit
set_option maxRecDepth 20000

set_option maxHeartbeats 2000000 in
set_option maxRecDepth 100000 in
/-- String of a Builder that holds bytes: the bytes are frozen, all else is as it was. -/
theorem str_run {P : Program} {ρ : Go.Shelf.Ren} (L : Lays.n169 P ρ) (X : Builder.Extra P ρ) (b g cap n : Nat) (l : List UInt8) (w : World) (c1' : w.cell? ⟨b, 1, none⟩ = some (.slice (some ⟨g, 0, none⟩) l.length cap))
    (hsh : w.shape? g = some (ρ.t 5, n)) (hln : l.length ≤ n) (h0 : l ≠ []) (hlc : l.length ≤ cap) (hcm : cap ≤ maxLen) (hby : ∀ (j : Nat) (x : UInt8), l[j]? = some x → w.cell? ((⟨g, 0, none⟩ : Addr).add j) = some (.int .u8 x.toNat)) :
    Calls P (ρ.f 169) #[.pointer (some ⟨b, 0, none⟩)] w fun e w' => e = .returned (.string ⟨l.toArray⟩) ∧ w' = w.drew.freeze ⟨g, 0, none⟩ l.length := by
  have hl0 : l.length ≠ 0 := by simpa using h0
  have c1 : w.drew.cell? ⟨b, 1, none⟩ = some (.slice (some ⟨g, 0, none⟩) l.length cap) := c1'
  have hSD : (Builtin.unsafeSliceData_ #[(ρ.t 37)] (ρ.t 127) #[.slice (some ⟨g, 0, none⟩) l.length cap]).run P w.drew = .ok (.pointer (some ⟨g, 0, none⟩)) w.drew :=
    Lib.run_unsafeSliceData_row _ _ _ _ _ _ (by omega)
  have hUS : (Builtin.unsafeString_ #[(ρ.t 127), (ρ.t 3)] (ρ.t 9) #[.pointer (some ⟨g, 0, none⟩), .int .i64 l.length]).run P w.drew = .ok (.string ⟨l.toArray⟩) (w.drew.freeze ⟨g, 0, none⟩ l.length) :=
    Lib.run_unsafeString_row w.drew (ρ.t 127) (ρ.t 3) (ρ.t 9) (ρ.t 5) L.t127 X.cellsByte g n hsh l h0 hln (by unfold maxLen at hcm; omega) hby
  have mixed := L.mixed
  have t72 := L.t72; have a72 := L.a72; have z72 := L.z72; have v72 := L.v72; have u72 := run_underlying L.t72
  have t70 := L.t70; have a70 := L.a70; have z70 := L.z70; have v70 := L.v70; have u70 := run_underlying L.t70
  have t37 := L.t37; have a37 := L.a37; have z37 := L.z37; have v37 := L.v37; have u37 := run_underlying L.t37
  have t127 := L.t127; have a127 := L.a127; have z127 := L.z127; have v127 := L.v127; have u127 := run_underlying L.t127
  have t3 := L.t3; have a3 := L.a3; have z3 := L.z3; have v3 := L.v3; have u3 := run_underlying L.t3
  have t9 := L.t9; have a9 := L.a9; have z9 := L.z9; have v9 := L.v9; have u9 := run_underlying L.t9
  have t5 := X.t5; have a5 := X.a5; have z5 := X.z5; have v5 := X.v5; have u5 := run_underlying X.t5
  go_enter L.f169, Body.n169_ntmps ρ
  go_wp2
  go_region_o
  all_goals (go_wp2; go_ret; exact ⟨rfl, rfl⟩)
/-- An object is let go; its block may have changed. -/
theorem Rep.drop {R : RO} {ι : IM} {h : LH} {B : Nat} {w w' : World} (hr : Rep R ι h B w) (hB : B ≤ w.heap.size) {k : Nat} (hk : k < h.n) (hlive : (h.f k).2.live = true) (hm : (ι k).m ≠ 0)
    (hos : w'.os = w.os) (htape : w'.tape = w.tape) (hout : w'.output = w.output) (hsize : w'.heap.size = w.heap.size) (hother : ∀ b, b ≠ (ι k).b → w'.heap[b]? = w.heap[b]?) :
    Trans B R ι h w R ι (h.set k ((h.f k).1, .dead)) w' := by
  have hmono : Mono R ι h R ι (h.set k ((h.f k).1, .dead)) := by
    refine ⟨fun _ _ hx => hx, Nat.le_refl _, fun j hj => ?_, fun j hj hv => rfl⟩
    by_cases e : j = k
    · subst e; simp [LH.set]
    · simp [LH.set, e]
  have hf : ∀ j, j ≠ k → (h.set k ((h.f k).1, .dead)).f j = h.f j := fun j hj => by simp [LH.set, hj]
  have hfk : (h.set k ((h.f k).1, .dead)).f k = ((h.f k).1, .dead) := by simp [LH.set]
  have hbk := hr.base k hk hlive (.inl hm)
  have hne : ∀ j, j < h.n → j ≠ k → (h.f j).2.live = true → ((ι j).m ≠ 0 ∨ (h.f j).2.isMap = true) → (ι j).b ≠ (ι k).b :=
    fun j hj hjk hlv hmz e => hjk (hr.apart j k hj hk hlv hlive hmz (.inl hm) e)
  have hjk : ∀ j, ((h.set k ((h.f k).1, .dead)).f j).2.live = true → j ≠ k := by
    intro j hl e
    subst e
    rw [hfk] at hl; simp [LO.live] at hl
  refine ⟨⟨?_, ?_, ?_, ?_, ?_, ?_, ?_, hr.gl⟩, hmono, ⟨hos, htape, hout, by omega, fun b hb => hother b (by omega)⟩, fun _ _ => rfl, hB⟩
  · intro b o hb
    rw [hother b (fun e => by rw [e, hbk.2.2] at hb; simp at hb)]
    exact hr.ro b o hb
  · intro j hj hlv hmp hmz
    have e := hjk j hlv
    rw [hf j e] at hlv hmp ⊢
    obtain ⟨cl, e', hw, hs, hz, hpl, hcl⟩ := (hr.cells j hj hlv hmp hmz).ex
    exact ⟨cl, e', by rw [hother _ (hne j hj e hlv (.inl hmz))]; exact hw, hs, hz, hpl, fun i c' lv hx => let ⟨v, a1, a2⟩ := hcl i c' lv hx; ⟨v, a1, a2.mono hmono⟩⟩
  · intro j hj hlv hmp hmz
    have e := hjk j hlv
    rw [hf j e] at hlv hmp ⊢
    exact hr.empty j hj hlv hmp hmz
  · intro j hj hlv hmz
    have e := hjk j hlv
    rw [hf j e] at hlv hmz
    obtain ⟨a, b, c⟩ := hr.base j hj hlv hmz
    exact ⟨a, by omega, c⟩
  · intro j j' hj hj' hlv hlv' hmz hmz' hbb
    have e := hjk j hlv
    have e' := hjk j' hlv'
    rw [hf j e] at hlv hmz
    rw [hf j' e'] at hlv' hmz'
    exact hr.apart j j' hj hj' hlv hlv' hmz hmz' hbb
  · intro j es hj hes
    have e := hjk j (by rw [hes]; rfl)
    rw [hf j e] at hes
    obtain ⟨ents, clock, q1, q2, q3, q4⟩ := hr.maps j es hj hes
    refine ⟨ents, clock, ?_, q2, q3, fun i kv hkv => let ⟨en, a1, a2, a3⟩ := q4 i kv hkv; ⟨en, a1, a2, a3.mono hmono⟩⟩
    rw [hother _ (hne j hj e (by rw [hes]; rfl) (.inr (by rw [hes]; rfl)))]; exact q1
  · intro j hj
    by_cases e : j = k
    · subst e; rw [hfk]; exact trivial
    · rw [hf j e]
      exact (hr.ty j hj).heap fun h1 h2 => hother _ (hne j hj e h1 (.inl h2))
def u8I (l : List UInt8) : List Int := l.map fun b => ((b.toNat : Nat) : Int)
theorem lc_str_row {h : LH} {kb vb kr vr : Nat} {l : List UInt8} (hkb : kb < h.n) (hb : h.f kb = (vb, .tbox 88 [.ptr kb vb 0 0 0, .sl kr vr 1 0 l.length])) (hkr : kr < h.n) (hrr : h.f kr = (vr, .byt 5 (u8I l))) (h0 : l ≠ []) :
    LCall Tryd.prog 47 [.ptr kb vb 0 0 0] h (.sc (.string ⟨l.toArray⟩)) (h.set kr (vr, .dead)) := by
  rintro B R ι w ⟨vs⟩ hB hr hsz ha
  match vs, hsz with
  | [v], _ =>
    obtain ⟨h1, h2, v0, v1, hw, hv0, hv1⟩ := bld_at hr hkb hb
    have hp : Rv R ι h (.ptr kb vb 0 0 0) v := ha 0 _ rfl
    obtain ⟨a, rfl, _, _, hpl⟩ := hp.ptr_inv
    have hpl := hpl (by rw [hb])
    have e0 : a = ⟨(ι kb).b, 0, none⟩ := by rw [hpl, h1]
    subst e0
    have hl0 : 0 < l.length := List.length_pos_iff.2 h0
    obtain ⟨sa, cap, rfl, _, _, hlc, hm, hcase⟩ := hv1.sl_inv
    obtain ⟨rfl, hcapm⟩ := (hcase.resolve_left (by omega)) (by rw [hrr])
    have hty := hr.ty kr hkr
    rw [hrr] at hty
    obtain ⟨t1, t2⟩ := hty
    simp only [Nat.zero_mul, Nat.add_zero, Nat.zero_add, Nat.mul_one] at hcapm hw
    rw [t1] at hw
    have hm0 : (ι kr).m ≠ 0 := by omega
    obtain ⟨c0, hg⟩ := t2 hm0
    have hlv : (h.f kr).2.live = true := by rw [hrr]; rfl
    obtain ⟨cl, e, hw2, hs, hle, _, hcl⟩ := (hr.cells kr hkr hlv (by rw [hrr]; rfl) hm0).ex
    rw [hw2] at hg
    injection hg with hg
    injection hg with _ hg _
    subst hg
    rw [hrr] at hcl
    have hrun := str_run Tryd.lays169 Tryd.Builder_Extra_169 (ι kb).b (ι kr).b cap cl.size l w (by simp [World.cell?, hw]) (by simp [World.shape?, hw2]; rfl) (by omega) h0 hlc hm (fun j x hx => by
      obtain ⟨u, a1, a2⟩ := hcl j 0 (.sc (.int .u8 x.toNat)) (by simp [cellAt, u8I, hx])
      have := a2.sc_inv.1
      subst this
      rw [t1] at a1
      simp only [LO.sz, Nat.mul_one, Nat.add_zero, Nat.zero_add] at a1
      rw [add_mk, Nat.zero_add]
      simp [World.cell?, hw2, a1])
    refine Calls.mono hrun ?_
    rintro e' w' ⟨rfl, rfl⟩
    have hfz : ∀ b, b ≠ (ι kr).b → (w.drew.freeze ⟨(ι kr).b, 0, none⟩ l.length).heap[b]? = w.heap[b]? := by
      intro b hb'
      unfold World.freeze
      rw [if_neg (by omega)]
      simp only [Array.getElem?_modify]
      rw [if_neg (fun e => hb' e.symm)]; rfl
    have hT := Rep.drop hr hB hkr hlv hm0 (w' := w.drew.freeze ⟨(ι kr).b, 0, none⟩ l.length) (by unfold World.freeze; split <;> rfl) (by unfold World.freeze; split <;> rfl) (by unfold World.freeze; split <;> rfl) (by unfold World.freeze; split <;> first | rfl | exact Array.size_modify) hfz
    rw [hrr] at hT
    exact ⟨_, R, ι, rfl, hT, rv_sc rfl⟩
theorem lc_str_nil {h : LH} {kb vb : Nat} {c0 : LV} (hkb : kb < h.n) (hb : h.f kb = (vb, .tbox 88 [c0, .nsl])) :
    LCall Tryd.prog 47 [.ptr kb vb 0 0 0] h (.sc (.string ⟨#[]⟩)) h := by
  rintro B R ι w ⟨vs⟩ hB hr hsz ha
  match vs, hsz with
  | [v], _ =>
    obtain ⟨h1, h2, v0, v1, hw, hv0, hv1⟩ := bld_at hr hkb hb
    have hp : Rv R ι h (.ptr kb vb 0 0 0) v := ha 0 _ rfl
    obtain ⟨a, rfl, _, _, hpl⟩ := hp.ptr_inv
    have hpl := hpl (by rw [hb])
    have e0 : a = ⟨(ι kb).b, 0, none⟩ := by rw [hpl, h1]
    subst e0
    have := hv1.nsl_inv
    subst this
    refine Calls.mono (Any.Builder_String_nil Tryd.lays169 Tryd.Builder_Extra_169 w.heap.size (ι kb).b v0 w hw) ?_
    rintro e' w' ⟨rfl, hBl⟩
    refine ⟨_, R, ι, rfl, trans_call hB hr (fun b o hbo => ?_) hBl (fun _ _ h => h) (fun _ _ => rfl) rfl, rv_sc rfl⟩
    have := hr.ro b o hbo
    rw [hBl.block b (Array.getElem?_eq_some_iff.1 this).1]; exact this
end Go.Proofs.YtdfiicpikcdokaaDoor
namespace Go.Proofs.YtdfiicpikcdokaaDoor
set_option linter.unusedSimpArgs false
set_option linter.unusedVariables false
open Go.RowKit
set_option maxRecDepth 20000

theorem sc_inv {R : RO} {a v : Value} (h : Ro R (.sc a) v) : v = a := by cases h; rfl
/-- strconv.Itoa below 100. -/
theorem ev_itoa (i : Nat) (hi : i < 100) : Ev Tryd.prog 46 [.sc (.int .i64 (i : Int))] (.sc (.string ⟨(Lib.decDigits i).toArray⟩)) := by
  rintro R w ⟨vs⟩ hR hgl hs ha
  match vs, hs with
  | [v], _ =>
    have h0 := sc_inv (ha 0 _ rfl)
    have h1 : v = .int .i64 (i : Int) := h0
    subst h1
    refine (Tryd.strconv_Itoa_small i hi w).mono ?_
    rintro e w' ⟨rfl, rfl⟩
    exact ⟨_, R, rfl, fun _ _ h => h, fun _ _ => rfl, hR, Below.refl _ _, .sc _ rfl⟩
def txsF (l : List ByteArray) (i : Nat) : List LV := [.sc (.string (l.getD i ⟨#[]⟩))]
def txsV (l : List ByteArray) : LV := .rsl 1 l.length (txsF l)
end Go.Proofs.YtdfiicpikcdokaaDoor
namespace Go.Proofs.YtdfiicpikcdokaaDoor
set_option linter.unusedSimpArgs false
set_option linter.unusedVariables false
open Go.RowKit

structure Rt where
  n : Int
  d : Int
deriving DecidableEq
instance : Inhabited Rt := ⟨⟨0, 0⟩⟩
def rtL (r : Rt) : List LV := [.sc (.int .i64 r.n), .sc (.int .i64 r.d)]
def rtsF (l : List Rt) (i : Nat) : List LV := rtL (l.getD i default)
def ratV (r : Rt) : LV := .agg [.sc (.int .i64 r.n), .sc (.int .i64 r.d)]
def ratsV (l : List Rt) : LV := .rsl 2 l.length (rtsF l)
theorem rtsF_eq (l : List Rt) (i : Nat) : rtsF l i = [.sc (.int .i64 (l.getD i default).n), .sc (.int .i64 (l.getD i default).d)] := rfl
def intsF (l : List Int) (i : Nat) : List LV := [.sc (.int .i64 (l.getD i 0))]
def intsV (l : List Int) : LV := .rsl 1 l.length (intsF l)
def RtOk (r : Rt) : Prop := In64 r.n ∧ In64 r.d
def U64 (n : Nat) : LV := .sc (.int .u64 (n : Int))
theorem wrap_u64 (x : Int) : IntKind.u64.wrap x = x % 18446744073709551616 := IntKind.wrap_u64 x
theorem and_mask (x : Int) : andI .u64 x 4294967295 = x % 4294967296 := by
  unfold andI
  rw [wrap_u64]
  have h1 : (BitVec.ofInt IntKind.u64.bits x).toNat = (x % 18446744073709551616).toNat := BitVec.toNat_ofInt (n := 64) x
  have h2 : (BitVec.ofInt IntKind.u64.bits 4294967295).toNat = 2 ^ 32 - 1 := by decide
  rw [BitVec.toNat_and, h1, h2, Nat.and_two_pow_sub_one_eq_mod]
  omega
theorem fdiv_32 (x : Int) : x.fdiv (2 ^ 32) = x / 4294967296 := Int.fdiv_eq_ediv_of_nonneg _ (by decide)
theorem EVFR : (∀ (l : List Int) (i : Nat), intsF l i = [.sc (.int .i64 (l.getD i 0))]) ∧ (∀ (l : List Rt) (i : Nat), rtsF l i = [.sc (.int .i64 (l.getD i default).n), .sc (.int .i64 (l.getD i default).d)]) ∧ (∀ n : Nat, U64 n = .sc (.int .u64 (n : Int))) ∧ (∀ x : Int, IntKind.u64.wrap x = x % 18446744073709551616) ∧
    (∀ x : Int, andI .u64 x 4294967295 = x % 4294967296) ∧ (∀ x : Int, x.fdiv (2 ^ 32) = x / 4294967296) ∧ IntKind.u64.bits = 64 ∧ IntKind.i64.bits = 64 := ⟨fun _ _ => rfl, rtsF_eq, fun _ => rfl, wrap_u64, and_mask, fdiv_32, rfl, rfl⟩

theorem ev_gcd (a b : Nat) : Ev Tryd.prog 31 [U64 a, U64 b] (U64 (Nat.gcd a b)) := by
  refine ev_fn Tryd.func31 comp31 (show 2 ≤ Tryd.f31.ntmps by decide) ?_; unfold cf31 rf31; simp only [↓EVP0, EVQ0, EVQ1, EVQ2, EVQ3, EVQ4, EVA, EVK, EVFR, ↓reduceIte, Nat.reduceEqDiff, Nat.reduceAdd, Nat.reduceSub, Nat.reduceMul, Nat.reduceLT, Nat.reduceLeDiff, reduceCtorEq, Int.reduceToNat, Int.reduceLT, Int.reduceLE, Int.reduceAdd, Int.reduceSub, Int.reduceMul, Int.reduceNeg, Int.reduceEq, Nat.reduceMod, forall_eq_or_imp, forall_eq, forall_const, cond_true, cond_false, decide_true, decide_false, true_imp_iff, implies_true, Int.cast_ofNat_Int, forall_eq']
  refine lwp_loop (α := Nat × Nat) (fun q => Nat.gcd q.1 q.2 = Nat.gcd a b) (fun q => [(0, .sc (.int .u64 (q.1 : Int))), (1, .sc (.int .u64 (q.2 : Int)))]) (fun _ => []) (fun q => q.2) (a, b) rfl ?_ (fun _ => Nat.zero_le _) ?_
  · simp only [↓EVP0, EVQ0, EVQ1, EVQ2, EVQ3, EVQ4, EVA, EVK, EVFR, ↓reduceIte, Nat.reduceEqDiff, Nat.reduceAdd, Nat.reduceSub, Nat.reduceMul, Nat.reduceLT, Nat.reduceLeDiff, reduceCtorEq, Int.reduceToNat, Int.reduceLT, Int.reduceLE, Int.reduceAdd, Int.reduceSub, Int.reduceMul, Int.reduceNeg, Int.reduceEq, Nat.reduceMod, forall_eq_or_imp, forall_eq, forall_const, cond_true, cond_false, decide_true, decide_false, true_imp_iff, implies_true, Int.cast_ofNat_Int, forall_eq']
  rintro ⟨x, y⟩ hxy
  unfold lb31_0
  simp only [↓EVP0, EVQ0, EVQ1, EVQ2, EVQ3, EVQ4, EVA, EVK, EVFR, ↓reduceIte, Nat.reduceEqDiff, Nat.reduceAdd, Nat.reduceSub, Nat.reduceMul, Nat.reduceLT, Nat.reduceLeDiff, reduceCtorEq, Int.reduceToNat, Int.reduceLT, Int.reduceLE, Int.reduceAdd, Int.reduceSub, Int.reduceMul, Int.reduceNeg, Int.reduceEq, Nat.reduceMod, forall_eq_or_imp, forall_eq, forall_const, cond_true, cond_false, decide_true, decide_false, true_imp_iff, implies_true, Int.cast_ofNat_Int, forall_eq']
  refine ⟨fun h => ⟨by simp at h; omega, (y, x % y), ?_, ⟨rfl, (Int.ofNat_tmod x y).symm⟩, ?_⟩, fun h => ?_⟩
  · simp only at hxy ⊢
    rw [← hxy, Nat.gcd_comm x y, Nat.gcd_rec y x, Nat.gcd_comm]
  · simp at h
    exact Nat.mod_lt _ (by omega)
  · have : y = 0 := by simp at h; omega
    subst this
    simp only [Nat.gcd_zero_right] at hxy
    rw [hxy]
theorem condT (x y : Bool) : (bif x then true else y) = (x || y) := by cases x <;> rfl
theorem condF (x y : Bool) : (bif x then y else false) = (x && y) := by cases x <;> rfl
def mag (n : Int) : Nat := n.natAbs
theorem mag_le {n : Int} (h : In64 n) : mag n ≤ 9223372036854775808 := by unfold In64 at h; unfold mag; omega
theorem ev_size (n : Int) (h : In64 n) : Ev Tryd.prog 32 [.sc (.int .i64 n)] (U64 (mag n)) := by
  refine ev_fn Tryd.func32 comp32 (show 1 ≤ Tryd.f32.ntmps by decide) ?_; unfold cf32 rf32; simp only [↓EVP0, EVQ0, EVQ1, EVQ2, EVQ3, EVQ4, EVA, EVK, EVFR, ↓reduceIte, Nat.reduceEqDiff, Nat.reduceAdd, Nat.reduceSub, Nat.reduceMul, Nat.reduceLT, Nat.reduceLeDiff, reduceCtorEq, Int.reduceToNat, Int.reduceLT, Int.reduceLE, Int.reduceAdd, Int.reduceSub, Int.reduceMul, Int.reduceNeg, Int.reduceEq, Nat.reduceMod, forall_eq_or_imp, forall_eq, forall_const, cond_true, cond_false, decide_true, decide_false, true_imp_iff, implies_true, Int.cast_ofNat_Int, forall_eq']
  unfold In64 at h
  unfold mag
  refine ⟨fun g => ?_, fun g => ?_⟩
  · simp at g; omega
  · simp at g; omega
/-- What the program calls valid. -/
def vldR (r : Rt) : Bool := (decide (r.n = 0) && decide (r.d = 0)) || (decide (1 ≤ r.d) && (decide (r.d ≤ 1152921504606846976) && (decide (-1152921504606846976 ≤ r.n) && (decide (r.n ≤ 1152921504606846976) && decide (Nat.gcd (mag r.n) (mag r.d) = 1)))))
theorem ev_valid (r : Rt) (hr : RtOk r) : Ev Tryd.prog 24 [ratV r] (.sc (.bool (vldR r))) := by
  have h1 := ev_size r.n hr.1
  have h2 := ev_size r.d hr.2
  have h3 := ev_gcd
  unfold ratV
  refine ev_fn Tryd.func24 comp24 (show 1 ≤ Tryd.f24.ntmps by decide) ?_; unfold cf24 rf24; simp only [↓EVP0, EVQ0, EVQ1, EVQ2, EVQ3, EVQ4, EVA, EVK, EVFR, ↓reduceIte, Nat.reduceEqDiff, Nat.reduceAdd, Nat.reduceSub, Nat.reduceMul, Nat.reduceLT, Nat.reduceLeDiff, reduceCtorEq, Int.reduceToNat, Int.reduceLT, Int.reduceLE, Int.reduceAdd, Int.reduceSub, Int.reduceMul, Int.reduceNeg, Int.reduceEq, Nat.reduceMod, forall_eq_or_imp, forall_eq, forall_const, cond_true, cond_false, decide_true, decide_false, true_imp_iff, implies_true, Int.cast_ofNat_Int, forall_eq']
  refine ⟨fun g => ?_, fun g => ?_⟩
  · have : vldR r = true := by
      unfold vldR
      cases h : decide (r.n = 0) <;> rw [h] at g <;> simp at g
      simp [g]
    rw [this]
  (first | refine lopsQ_gcall ?_ | refine lopsQ_gecl ?_); (simp only [↓EVP0, EVQ0, EVQ1, EVQ2, EVQ3, EVQ4, EVA, EVK, EVFR, ↓reduceIte, Nat.reduceEqDiff, Nat.reduceAdd, Nat.reduceSub, Nat.reduceMul, Nat.reduceLT, Nat.reduceLeDiff, reduceCtorEq, Int.reduceToNat, Int.reduceLT, Int.reduceLE, Int.reduceAdd, Int.reduceSub, Int.reduceMul, Int.reduceNeg, Int.reduceEq, Nat.reduceMod, forall_eq_or_imp, forall_eq, forall_const, cond_true, cond_false, decide_true, decide_false, true_imp_iff, implies_true, Int.cast_ofNat_Int, forall_eq'])
  first | refine gCallK_ro _ (fun _ => h1) (fun _ => ?_) ?_ | refine geCallK_ro _ (fun _ => h1) (fun _ => ?_) ?_
  · simp only [↓EVP0, EVQ0, EVQ1, EVQ2, EVQ3, EVQ4, EVA, EVK, EVFR, ↓reduceIte, Nat.reduceEqDiff, Nat.reduceAdd, Nat.reduceSub, Nat.reduceMul, Nat.reduceLT, Nat.reduceLeDiff, reduceCtorEq, Int.reduceToNat, Int.reduceLT, Int.reduceLE, Int.reduceAdd, Int.reduceSub, Int.reduceMul, Int.reduceNeg, Int.reduceEq, Nat.reduceMod, forall_eq_or_imp, forall_eq, forall_const, cond_true, cond_false, decide_true, decide_false, true_imp_iff, implies_true, Int.cast_ofNat_Int, forall_eq']
  simp only [↓EVP0, EVQ0, EVQ1, EVQ2, EVQ3, EVQ4, EVA, EVK, EVFR, ↓reduceIte, Nat.reduceEqDiff, Nat.reduceAdd, Nat.reduceSub, Nat.reduceMul, Nat.reduceLT, Nat.reduceLeDiff, reduceCtorEq, Int.reduceToNat, Int.reduceLT, Int.reduceLE, Int.reduceAdd, Int.reduceSub, Int.reduceMul, Int.reduceNeg, Int.reduceEq, Nat.reduceMod, forall_eq_or_imp, forall_eq, forall_const, cond_true, cond_false, decide_true, decide_false, true_imp_iff, implies_true, Int.cast_ofNat_Int, forall_eq']
  (first | refine lopsQ_gcall ?_ | refine lopsQ_gecl ?_); (simp only [↓EVP0, EVQ0, EVQ1, EVQ2, EVQ3, EVQ4, EVA, EVK, EVFR, ↓reduceIte, Nat.reduceEqDiff, Nat.reduceAdd, Nat.reduceSub, Nat.reduceMul, Nat.reduceLT, Nat.reduceLeDiff, reduceCtorEq, Int.reduceToNat, Int.reduceLT, Int.reduceLE, Int.reduceAdd, Int.reduceSub, Int.reduceMul, Int.reduceNeg, Int.reduceEq, Nat.reduceMod, forall_eq_or_imp, forall_eq, forall_const, cond_true, cond_false, decide_true, decide_false, true_imp_iff, implies_true, Int.cast_ofNat_Int, forall_eq'])
  first | refine gCallK_ro _ (fun _ => h2) (fun _ => ?_) ?_ | refine geCallK_ro _ (fun _ => h2) (fun _ => ?_) ?_
  · simp only [↓EVP0, EVQ0, EVQ1, EVQ2, EVQ3, EVQ4, EVA, EVK, EVFR, ↓reduceIte, Nat.reduceEqDiff, Nat.reduceAdd, Nat.reduceSub, Nat.reduceMul, Nat.reduceLT, Nat.reduceLeDiff, reduceCtorEq, Int.reduceToNat, Int.reduceLT, Int.reduceLE, Int.reduceAdd, Int.reduceSub, Int.reduceMul, Int.reduceNeg, Int.reduceEq, Nat.reduceMod, forall_eq_or_imp, forall_eq, forall_const, cond_true, cond_false, decide_true, decide_false, true_imp_iff, implies_true, Int.cast_ofNat_Int, forall_eq']
  simp only [↓EVP0, EVQ0, EVQ1, EVQ2, EVQ3, EVQ4, EVA, EVK, EVFR, ↓reduceIte, Nat.reduceEqDiff, Nat.reduceAdd, Nat.reduceSub, Nat.reduceMul, Nat.reduceLT, Nat.reduceLeDiff, reduceCtorEq, Int.reduceToNat, Int.reduceLT, Int.reduceLE, Int.reduceAdd, Int.reduceSub, Int.reduceMul, Int.reduceNeg, Int.reduceEq, Nat.reduceMod, forall_eq_or_imp, forall_eq, forall_const, cond_true, cond_false, decide_true, decide_false, true_imp_iff, implies_true, Int.cast_ofNat_Int, forall_eq']
  (first | refine lopsQ_gcall ?_ | refine lopsQ_gecl ?_); (simp only [↓EVP0, EVQ0, EVQ1, EVQ2, EVQ3, EVQ4, EVA, EVK, EVFR, ↓reduceIte, Nat.reduceEqDiff, Nat.reduceAdd, Nat.reduceSub, Nat.reduceMul, Nat.reduceLT, Nat.reduceLeDiff, reduceCtorEq, Int.reduceToNat, Int.reduceLT, Int.reduceLE, Int.reduceAdd, Int.reduceSub, Int.reduceMul, Int.reduceNeg, Int.reduceEq, Nat.reduceMod, forall_eq_or_imp, forall_eq, forall_const, cond_true, cond_false, decide_true, decide_false, true_imp_iff, implies_true, Int.cast_ofNat_Int, forall_eq'])
  first | refine gCallK_ro _ (fun _ => h3 _ _) (fun _ => ?_) ?_ | refine geCallK_ro _ (fun _ => h3 _ _) (fun _ => ?_) ?_
  · simp only [↓EVP0, EVQ0, EVQ1, EVQ2, EVQ3, EVQ4, EVA, EVK, EVFR, ↓reduceIte, Nat.reduceEqDiff, Nat.reduceAdd, Nat.reduceSub, Nat.reduceMul, Nat.reduceLT, Nat.reduceLeDiff, reduceCtorEq, Int.reduceToNat, Int.reduceLT, Int.reduceLE, Int.reduceAdd, Int.reduceSub, Int.reduceMul, Int.reduceNeg, Int.reduceEq, Nat.reduceMod, forall_eq_or_imp, forall_eq, forall_const, cond_true, cond_false, decide_true, decide_false, true_imp_iff, implies_true, Int.cast_ofNat_Int, forall_eq']
  simp only [↓EVP0, EVQ0, EVQ1, EVQ2, EVQ3, EVQ4, EVA, EVK, EVFR, ↓reduceIte, Nat.reduceEqDiff, Nat.reduceAdd, Nat.reduceSub, Nat.reduceMul, Nat.reduceLT, Nat.reduceLeDiff, reduceCtorEq, Int.reduceToNat, Int.reduceLT, Int.reduceLE, Int.reduceAdd, Int.reduceSub, Int.reduceMul, Int.reduceNeg, Int.reduceEq, Nat.reduceMod, forall_eq_or_imp, forall_eq, forall_const, cond_true, cond_false, decide_true, decide_false, true_imp_iff, implies_true, Int.cast_ofNat_Int, forall_eq']
  simp only [condF] at g ⊢
  unfold vldR
  rw [g, Bool.false_or]
  have e : ∀ n : Nat, decide ((n : Int) = 1) = decide (n = 1) := fun n => by
    by_cases h : n = 1
    · subst h; rfl
    · have : ¬ (n : Int) = 1 := by omega
      simp [h, this]
  rw [e]
  cases decide (1 ≤ r.d) <;> cases decide (r.d ≤ 1152921504606846976) <;> cases decide (-1152921504606846976 ≤ r.n) <;> cases decide (r.n ≤ 1152921504606846976) <;> rfl
end Go.Proofs.YtdfiicpikcdokaaDoor
namespace Go.Proofs.YtdfiicpikcdokaaDoor
set_option linter.unusedSimpArgs false
set_option linter.unusedVariables false
open Go.RowKit
set_option maxRecDepth 20000

theorem split_mul (a b : Nat) : a * b = (a / 4294967296) * (b / 4294967296) * 18446744073709551616 + ((a / 4294967296) * (b % 4294967296) + (a % 4294967296) * (b / 4294967296)) * 4294967296 + (a % 4294967296) * (b % 4294967296) := by
  have h1 := Nat.div_add_mod a 4294967296
  have h2 := Nat.div_add_mod b 4294967296
  generalize a / 4294967296 = x1 at *
  generalize a % 4294967296 = x0 at *
  generalize b / 4294967296 = y1 at *
  generalize b % 4294967296 = y0 at *
  subst h1; subst h2
  rw [Nat.add_mul, Nat.mul_add, Nat.mul_add]
  have e1 : 4294967296 * x1 * (4294967296 * y1) = x1 * y1 * 18446744073709551616 := by
    rw [Nat.mul_mul_mul_comm, Nat.mul_comm]
  have e2 : 4294967296 * x1 * y0 = x1 * y0 * 4294967296 := by rw [Nat.mul_assoc, Nat.mul_comm]
  have e3 : x0 * (4294967296 * y1) = x0 * y1 * 4294967296 := by rw [← Nat.mul_assoc, Nat.mul_comm x0, Nat.mul_assoc, Nat.mul_comm]
  rw [e1, e2, e3]
  omega
theorem mul_le_32 {a b : Nat} (ha : a < 4294967296) (hb : b < 4294967296) : a * b ≤ 18446744065119617025 := Nat.le_trans (Nat.mul_le_mul (Nat.le_sub_one_of_lt ha) (Nat.le_sub_one_of_lt hb)) (by decide)
theorem ev_mul64 (a b : Nat) (ha : a < 18446744073709551616) (hb : b < 18446744073709551616) : Ev Tryd.prog 36 [U64 a, U64 b] (.tup [U64 (a * b / 18446744073709551616), U64 (a * b % 18446744073709551616)]) := by
  refine ev_fn Tryd.func36 comp36 (show 2 ≤ Tryd.f36.ntmps by decide) ?_; unfold cf36 rf36; simp only [↓EVP0, EVQ0, EVQ1, EVQ2, EVQ3, EVQ4, EVA, EVK, EVFR, ↓reduceIte, Nat.reduceEqDiff, Nat.reduceAdd, Nat.reduceSub, Nat.reduceMul, Nat.reduceLT, Nat.reduceLeDiff, reduceCtorEq, Int.reduceToNat, Int.reduceLT, Int.reduceLE, Int.reduceAdd, Int.reduceSub, Int.reduceMul, Int.reduceNeg, Int.reduceEq, Nat.reduceMod, forall_eq_or_imp, forall_eq, forall_const, cond_true, cond_false, decide_true, decide_false, true_imp_iff, implies_true, Int.cast_ofNat_Int, forall_eq']
  have h := split_mul a b
  have b11 := mul_le_32 (a := a / 4294967296) (b := b / 4294967296) (by omega) (by omega)
  have b10 := mul_le_32 (a := a / 4294967296) (b := b % 4294967296) (by omega) (by omega)
  have b01 := mul_le_32 (a := a % 4294967296) (b := b / 4294967296) (by omega) (by omega)
  have b00 := mul_le_32 (a := a % 4294967296) (b := b % 4294967296) (by omega) (by omega)
  rw [show (a : Int) / 4294967296 = ((a / 4294967296 : Nat) : Int) by omega, show (b : Int) / 4294967296 = ((b / 4294967296 : Nat) : Int) by omega, show (a : Int) % 4294967296 = ((a % 4294967296 : Nat) : Int) by omega, show (b : Int) % 4294967296 = ((b % 4294967296 : Nat) : Int) by omega]
  simp only [← Int.natCast_mul]
  generalize a / 4294967296 * (b / 4294967296) = p11 at *
  generalize a / 4294967296 * (b % 4294967296) = p10 at *
  generalize a % 4294967296 * (b / 4294967296) = p01 at *
  generalize a % 4294967296 * (b % 4294967296) = p00 at *
  generalize a * b = m at *
  omega
def B64 : Nat := 18446744073709551616
/-- A number of 128 bits with a sign. -/
def wV (s : Bool) (m : Nat) : LV := .agg [.sc (.bool s), U64 (m / 18446744073709551616), U64 (m % 18446744073709551616)]
theorem ev_product (n : Int) (f : Nat) (hn : In64 n) (hf : f < 18446744073709551616) : Ev Tryd.prog 33 [.sc (.int .i64 n), U64 f] (wV (decide (n < 0)) (mag n * f)) := by
  have h1 := ev_size n hn
  have h2 := ev_mul64 (mag n) f (by have := mag_le hn; omega) hf
  unfold wV
  refine ev_fn Tryd.func33 comp33 (show 2 ≤ Tryd.f33.ntmps by decide) ?_; unfold cf33 rf33; simp only [↓EVP0, EVQ0, EVQ1, EVQ2, EVQ3, EVQ4, EVA, EVK, EVFR, ↓reduceIte, Nat.reduceEqDiff, Nat.reduceAdd, Nat.reduceSub, Nat.reduceMul, Nat.reduceLT, Nat.reduceLeDiff, reduceCtorEq, Int.reduceToNat, Int.reduceLT, Int.reduceLE, Int.reduceAdd, Int.reduceSub, Int.reduceMul, Int.reduceNeg, Int.reduceEq, Nat.reduceMod, forall_eq_or_imp, forall_eq, forall_const, cond_true, cond_false, decide_true, decide_false, true_imp_iff, implies_true, Int.cast_ofNat_Int, forall_eq']
  refine callK_ro (h1) ?_ ?_
  · simp only [↓EVP0, EVQ0, EVQ1, EVQ2, EVQ3, EVQ4, EVA, EVK, EVFR, ↓reduceIte, Nat.reduceEqDiff, Nat.reduceAdd, Nat.reduceSub, Nat.reduceMul, Nat.reduceLT, Nat.reduceLeDiff, reduceCtorEq, Int.reduceToNat, Int.reduceLT, Int.reduceLE, Int.reduceAdd, Int.reduceSub, Int.reduceMul, Int.reduceNeg, Int.reduceEq, Nat.reduceMod, forall_eq_or_imp, forall_eq, forall_const, cond_true, cond_false, decide_true, decide_false, true_imp_iff, implies_true, Int.cast_ofNat_Int, forall_eq']
  simp only [↓EVP0, EVQ0, EVQ1, EVQ2, EVQ3, EVQ4, EVA, EVK, EVFR, ↓reduceIte, Nat.reduceEqDiff, Nat.reduceAdd, Nat.reduceSub, Nat.reduceMul, Nat.reduceLT, Nat.reduceLeDiff, reduceCtorEq, Int.reduceToNat, Int.reduceLT, Int.reduceLE, Int.reduceAdd, Int.reduceSub, Int.reduceMul, Int.reduceNeg, Int.reduceEq, Nat.reduceMod, forall_eq_or_imp, forall_eq, forall_const, cond_true, cond_false, decide_true, decide_false, true_imp_iff, implies_true, Int.cast_ofNat_Int, forall_eq']
  refine callK_ro (h2) ?_ ?_
  · simp only [↓EVP0, EVQ0, EVQ1, EVQ2, EVQ3, EVQ4, EVA, EVK, EVFR, ↓reduceIte, Nat.reduceEqDiff, Nat.reduceAdd, Nat.reduceSub, Nat.reduceMul, Nat.reduceLT, Nat.reduceLeDiff, reduceCtorEq, Int.reduceToNat, Int.reduceLT, Int.reduceLE, Int.reduceAdd, Int.reduceSub, Int.reduceMul, Int.reduceNeg, Int.reduceEq, Nat.reduceMod, forall_eq_or_imp, forall_eq, forall_const, cond_true, cond_false, decide_true, decide_false, true_imp_iff, implies_true, Int.cast_ofNat_Int, forall_eq']
  simp only [↓EVP0, EVQ0, EVQ1, EVQ2, EVQ3, EVQ4, EVA, EVK, EVFR, ↓reduceIte, Nat.reduceEqDiff, Nat.reduceAdd, Nat.reduceSub, Nat.reduceMul, Nat.reduceLT, Nat.reduceLeDiff, reduceCtorEq, Int.reduceToNat, Int.reduceLT, Int.reduceLE, Int.reduceAdd, Int.reduceSub, Int.reduceMul, Int.reduceNeg, Int.reduceEq, Nat.reduceMod, forall_eq_or_imp, forall_eq, forall_const, cond_true, cond_false, decide_true, decide_false, true_imp_iff, implies_true, Int.cast_ofNat_Int, forall_eq']
def cmpN (m k : Nat) : Int := bif decide (m < k) then -1 else bif decide (m = k) then 0 else 1
theorem ev_wcmp (s t : Bool) (m k : Nat) : Ev Tryd.prog 39 [wV s m, wV t k] (.sc (.int .i64 (cmpN m k))) := by
  unfold wV
  refine ev_fn Tryd.func39 comp39 (show 2 ≤ Tryd.f39.ntmps by decide) ?_; unfold cf39 rf39; simp only [↓EVP0, EVQ0, EVQ1, EVQ2, EVQ3, EVQ4, EVA, EVK, EVFR, ↓reduceIte, Nat.reduceEqDiff, Nat.reduceAdd, Nat.reduceSub, Nat.reduceMul, Nat.reduceLT, Nat.reduceLeDiff, reduceCtorEq, Int.reduceToNat, Int.reduceLT, Int.reduceLE, Int.reduceAdd, Int.reduceSub, Int.reduceMul, Int.reduceNeg, Int.reduceEq, Nat.reduceMod, forall_eq_or_imp, forall_eq, forall_const, cond_true, cond_false, decide_true, decide_false, true_imp_iff, implies_true, Int.cast_ofNat_Int, forall_eq']
  unfold cmpN
  have e1 : ∀ a b : Nat, decide ((a : Int) < b) = decide (a < b) := fun a b => by simp
  have e2 : ∀ a b : Nat, decide ((a : Int) = b) = decide (a = b) := fun a b => by simp [Int.ofNat_inj]
  simp only [condT, condF, e1, e2]
  have d1 : (decide (m / 18446744073709551616 < k / 18446744073709551616) || decide (m / 18446744073709551616 = k / 18446744073709551616) && decide (m % 18446744073709551616 < k % 18446744073709551616)) = decide (m < k) := by
    rw [Bool.eq_iff_iff]; simp only [Bool.or_eq_true, Bool.and_eq_true, decide_eq_true_eq]; omega
  have d2 : (decide (m / 18446744073709551616 = k / 18446744073709551616) && decide (m % 18446744073709551616 = k % 18446744073709551616)) = decide (m = k) := by
    rw [Bool.eq_iff_iff]; simp only [Bool.or_eq_true, Bool.and_eq_true, decide_eq_true_eq]; omega
  rw [d1, d2]
  refine ⟨fun h => by rw [h]; rfl, fun h => ⟨fun h2 => by rw [h, h2]; rfl, fun h2 => by rw [h, h2]; rfl⟩⟩
theorem ev_fits (s : Bool) (m : Nat) : Ev Tryd.prog 53 [wV s m] (.sc (.bool (decide (m ≤ 1152921504606846976)))) := by
  unfold wV
  refine ev_fn Tryd.func53 comp53 (show 1 ≤ Tryd.f53.ntmps by decide) ?_; unfold cf53 rf53; simp only [↓EVP0, EVQ0, EVQ1, EVQ2, EVQ3, EVQ4, EVA, EVK, EVFR, ↓reduceIte, Nat.reduceEqDiff, Nat.reduceAdd, Nat.reduceSub, Nat.reduceMul, Nat.reduceLT, Nat.reduceLeDiff, reduceCtorEq, Int.reduceToNat, Int.reduceLT, Int.reduceLE, Int.reduceAdd, Int.reduceSub, Int.reduceMul, Int.reduceNeg, Int.reduceEq, Nat.reduceMod, forall_eq_or_imp, forall_eq, forall_const, cond_true, cond_false, decide_true, decide_false, true_imp_iff, implies_true, Int.cast_ofNat_Int, forall_eq']
  simp only [condF]
  rw [Bool.eq_iff_iff]; simp only [Bool.or_eq_true, Bool.and_eq_true, decide_eq_true_eq]; omega
theorem ev_signed (s : Bool) (m : Nat) (h : m ≤ 1152921504606846976) : Ev Tryd.prog 54 [wV s m] (.sc (.int .i64 (bif s then -(m : Int) else m))) := by
  unfold wV
  refine ev_fn Tryd.func54 comp54 (show 1 ≤ Tryd.f54.ntmps by decide) ?_; unfold cf54 rf54; simp only [↓EVP0, EVQ0, EVQ1, EVQ2, EVQ3, EVQ4, EVA, EVK, EVFR, ↓reduceIte, Nat.reduceEqDiff, Nat.reduceAdd, Nat.reduceSub, Nat.reduceMul, Nat.reduceLT, Nat.reduceLeDiff, reduceCtorEq, Int.reduceToNat, Int.reduceLT, Int.reduceLE, Int.reduceAdd, Int.reduceSub, Int.reduceMul, Int.reduceNeg, Int.reduceEq, Nat.reduceMod, forall_eq_or_imp, forall_eq, forall_const, cond_true, cond_false, decide_true, decide_false, true_imp_iff, implies_true, Int.cast_ofNat_Int, forall_eq']
  unfold In64
  refine ⟨fun g => ?_, fun g => ?_⟩ <;> subst g <;> simp only [cond_true, cond_false] <;> omega
theorem x_add64 (x y c : Nat) (hc : c ≤ 1) : XCall Tryd.prog 50 [U64 x, U64 y, U64 c] (.tup [U64 ((x + y + c) % 18446744073709551616), U64 ((x + y + c) / 18446744073709551616)]) := by
  intro R ι h w vs hs ha
  have h0 := (ha 0 _ rfl).sc_inv.1
  have h1 := (ha 1 _ rfl).sc_inv.1
  have h2 := (ha 2 _ rfl).sc_inv.1
  have hv : vs = #[.int .u64 x, .int .u64 y, .int .u64 c] := by
    apply Array.ext
    · simpa using hs
    · intro i hi hi2
      simp only [List.length_cons, List.length_nil] at hs
      rw [Array.getD_eq_getD_getElem?, Array.getElem?_eq_getElem (by omega)] at h0 h1 h2
      obtain rfl | rfl | rfl : i = 0 ∨ i = 1 ∨ i = 2 := by omega
      · exact h0
      · exact h1
      · exact h2
  rw [hv, run_callFunc_extern Tryd.func50 (by kernel_rfl) (by kernel_rfl) (by kernel_rfl) (e := add64Entry) (by kernel_rfl), run_add64 x y c (by omega) (by omega) (by omega) (by omega)]
  refine ⟨_, rfl, .tup _ _ rfl (fun i d hd => ?_)⟩
  rcases i with _ | _ | i
  · simp at hd; subst hd; exact rv_sc rfl
  · simp at hd; subst hd; exact rv_sc rfl
  · simp at hd
theorem x_sub64 (x y c : Nat) (hc : c ≤ 1) : XCall Tryd.prog 51 [U64 x, U64 y, U64 c] (.tup [U64 ((x + 18446744073709551616 - y - c) % 18446744073709551616), U64 (if x < y + c then 1 else 0)]) := by
  intro R ι h w vs hs ha
  have h0 := (ha 0 _ rfl).sc_inv.1
  have h1 := (ha 1 _ rfl).sc_inv.1
  have h2 := (ha 2 _ rfl).sc_inv.1
  have hv : vs = #[.int .u64 x, .int .u64 y, .int .u64 c] := by
    apply Array.ext
    · simpa using hs
    · intro i hi hi2
      simp only [List.length_cons, List.length_nil] at hs
      rw [Array.getD_eq_getD_getElem?, Array.getElem?_eq_getElem (by omega)] at h0 h1 h2
      obtain rfl | rfl | rfl : i = 0 ∨ i = 1 ∨ i = 2 := by omega
      · exact h0
      · exact h1
      · exact h2
  rw [hv, run_callFunc_extern Tryd.func51 (by kernel_rfl) (by kernel_rfl) (by kernel_rfl) (e := sub64Entry) (by kernel_rfl), run_sub64 x y c hc]
  refine ⟨_, rfl, .tup _ _ rfl (fun i d hd => ?_)⟩
  rcases i with _ | _ | i
  · simp at hd; subst hd; exact rv_sc rfl
  · simp at hd; subst hd; exact rv_sc rfl
  · simp at hd
theorem xCallK_of {P : Program} {f : FuncId} {al : List LV} {h : LH} {k : LV → LH → Prop} {r : LV} (he : XCall P f al r) (hk : k r h) : @xCallK P f al h ⟨k⟩ := ⟨r, he, hk⟩
/-- The sum of two numbers of 128 bits with signs. -/
def addW (s : Bool) (m : Nat) (t : Bool) (k : Nat) : Bool × Nat := bif decide (s = t) then (s, m + k) else bif decide (m < k) then (t, k - m) else (s, m - k)
theorem ev_wadd (s t : Bool) (m k : Nat) (h : m + k < 340282366920938463463374607431768211456) : Ev Tryd.prog 34 [wV s m, wV t k] (wV (addW s m t k).1 (addW s m t k).2) := by
  have h1 := ev_wcmp s t m k
  unfold wV at *
  refine ev_fn Tryd.func34 comp34 (show 2 ≤ Tryd.f34.ntmps by decide) ?_; unfold cf34 rf34; simp only [↓EVP0, EVQ0, EVQ1, EVQ2, EVQ3, EVQ4, EVA, EVK, EVFR, ↓reduceIte, Nat.reduceEqDiff, Nat.reduceAdd, Nat.reduceSub, Nat.reduceMul, Nat.reduceLT, Nat.reduceLeDiff, reduceCtorEq, Int.reduceToNat, Int.reduceLT, Int.reduceLE, Int.reduceAdd, Int.reduceSub, Int.reduceMul, Int.reduceNeg, Int.reduceEq, Nat.reduceMod, forall_eq_or_imp, forall_eq, forall_const, cond_true, cond_false, decide_true, decide_false, true_imp_iff, implies_true, Int.cast_ofNat_Int, forall_eq']
  refine ⟨fun hst => ?_, fun hst => ?_⟩
  · have e : addW s m t k = (s, m + k) := by
      unfold addW
      rw [show decide (s = t) = true by revert hst; cases s <;> cases t <;> simp]; rfl
    refine xCallK_of (x_add64 _ _ 0 (by omega)) ?_
    simp only [↓EVP0, EVQ0, EVQ1, EVQ2, EVQ3, EVQ4, EVA, EVK, EVFR, ↓reduceIte, Nat.reduceEqDiff, Nat.reduceAdd, Nat.reduceSub, Nat.reduceMul, Nat.reduceLT, Nat.reduceLeDiff, reduceCtorEq, Int.reduceToNat, Int.reduceLT, Int.reduceLE, Int.reduceAdd, Int.reduceSub, Int.reduceMul, Int.reduceNeg, Int.reduceEq, Nat.reduceMod, forall_eq_or_imp, forall_eq, forall_const, cond_true, cond_false, decide_true, decide_false, true_imp_iff, implies_true, Int.cast_ofNat_Int, forall_eq']
    refine xCallK_of (x_add64 _ _ _ (by omega)) ?_
    simp only [↓EVP0, EVQ0, EVQ1, EVQ2, EVQ3, EVQ4, EVA, EVK, EVFR, ↓reduceIte, Nat.reduceEqDiff, Nat.reduceAdd, Nat.reduceSub, Nat.reduceMul, Nat.reduceLT, Nat.reduceLeDiff, reduceCtorEq, Int.reduceToNat, Int.reduceLT, Int.reduceLE, Int.reduceAdd, Int.reduceSub, Int.reduceMul, Int.reduceNeg, Int.reduceEq, Nat.reduceMod, forall_eq_or_imp, forall_eq, forall_const, cond_true, cond_false, decide_true, decide_false, true_imp_iff, implies_true, Int.cast_ofNat_Int, forall_eq']
    rw [e]
    refine ⟨rfl, ?_, ?_⟩ <;> simp only <;> omega
  · have hne : decide (s = t) = false := by revert hst; cases s <;> cases t <;> simp
    refine callK_ro (h1) ?_ ?_
    · simp only [↓EVP0, EVQ0, EVQ1, EVQ2, EVQ3, EVQ4, EVA, EVK, EVFR, ↓reduceIte, Nat.reduceEqDiff, Nat.reduceAdd, Nat.reduceSub, Nat.reduceMul, Nat.reduceLT, Nat.reduceLeDiff, reduceCtorEq, Int.reduceToNat, Int.reduceLT, Int.reduceLE, Int.reduceAdd, Int.reduceSub, Int.reduceMul, Int.reduceNeg, Int.reduceEq, Nat.reduceMod, forall_eq_or_imp, forall_eq, forall_const, cond_true, cond_false, decide_true, decide_false, true_imp_iff, implies_true, Int.cast_ofNat_Int, forall_eq']
    simp only [↓EVP0, EVQ0, EVQ1, EVQ2, EVQ3, EVQ4, EVA, EVK, EVFR, ↓reduceIte, Nat.reduceEqDiff, Nat.reduceAdd, Nat.reduceSub, Nat.reduceMul, Nat.reduceLT, Nat.reduceLeDiff, reduceCtorEq, Int.reduceToNat, Int.reduceLT, Int.reduceLE, Int.reduceAdd, Int.reduceSub, Int.reduceMul, Int.reduceNeg, Int.reduceEq, Nat.reduceMod, forall_eq_or_imp, forall_eq, forall_const, cond_true, cond_false, decide_true, decide_false, true_imp_iff, implies_true, Int.cast_ofNat_Int, forall_eq']
    unfold cmpN
    refine ⟨fun g => ?_, fun g => ?_⟩
    · have hlt : m < k := by
        by_cases hlt : m < k
        · exact hlt
        · rw [decide_eq_false hlt, cond_false] at g
          cases h' : decide (m = k) <;> rw [h'] at g <;> simp at g
      have e : addW s m t k = (t, k - m) := by unfold addW; rw [hne, decide_eq_true hlt]; rfl
      refine xCallK_of (x_sub64 _ _ 0 (by omega)) ?_
      simp only [↓EVP0, EVQ0, EVQ1, EVQ2, EVQ3, EVQ4, EVA, EVK, EVFR, ↓reduceIte, Nat.reduceEqDiff, Nat.reduceAdd, Nat.reduceSub, Nat.reduceMul, Nat.reduceLT, Nat.reduceLeDiff, reduceCtorEq, Int.reduceToNat, Int.reduceLT, Int.reduceLE, Int.reduceAdd, Int.reduceSub, Int.reduceMul, Int.reduceNeg, Int.reduceEq, Nat.reduceMod, forall_eq_or_imp, forall_eq, forall_const, cond_true, cond_false, decide_true, decide_false, true_imp_iff, implies_true, Int.cast_ofNat_Int, forall_eq']
      refine xCallK_of (x_sub64 _ _ _ (by split <;> omega)) ?_
      simp only [↓EVP0, EVQ0, EVQ1, EVQ2, EVQ3, EVQ4, EVA, EVK, EVFR, ↓reduceIte, Nat.reduceEqDiff, Nat.reduceAdd, Nat.reduceSub, Nat.reduceMul, Nat.reduceLT, Nat.reduceLeDiff, reduceCtorEq, Int.reduceToNat, Int.reduceLT, Int.reduceLE, Int.reduceAdd, Int.reduceSub, Int.reduceMul, Int.reduceNeg, Int.reduceEq, Nat.reduceMod, forall_eq_or_imp, forall_eq, forall_const, cond_true, cond_false, decide_true, decide_false, true_imp_iff, implies_true, Int.cast_ofNat_Int, forall_eq']
      rw [e]
      refine ⟨rfl, ?_, ?_⟩ <;> simp only
      · split <;> omega
      · omega
    · have hlt : ¬ m < k := by
        intro hlt
        rw [decide_eq_true hlt] at g
        simp at g
      have e : addW s m t k = (s, m - k) := by unfold addW; rw [hne, decide_eq_false hlt]; rfl
      refine xCallK_of (x_sub64 _ _ 0 (by omega)) ?_
      simp only [↓EVP0, EVQ0, EVQ1, EVQ2, EVQ3, EVQ4, EVA, EVK, EVFR, ↓reduceIte, Nat.reduceEqDiff, Nat.reduceAdd, Nat.reduceSub, Nat.reduceMul, Nat.reduceLT, Nat.reduceLeDiff, reduceCtorEq, Int.reduceToNat, Int.reduceLT, Int.reduceLE, Int.reduceAdd, Int.reduceSub, Int.reduceMul, Int.reduceNeg, Int.reduceEq, Nat.reduceMod, forall_eq_or_imp, forall_eq, forall_const, cond_true, cond_false, decide_true, decide_false, true_imp_iff, implies_true, Int.cast_ofNat_Int, forall_eq']
      refine xCallK_of (x_sub64 _ _ _ (by split <;> omega)) ?_
      simp only [↓EVP0, EVQ0, EVQ1, EVQ2, EVQ3, EVQ4, EVA, EVK, EVFR, ↓reduceIte, Nat.reduceEqDiff, Nat.reduceAdd, Nat.reduceSub, Nat.reduceMul, Nat.reduceLT, Nat.reduceLeDiff, reduceCtorEq, Int.reduceToNat, Int.reduceLT, Int.reduceLE, Int.reduceAdd, Int.reduceSub, Int.reduceMul, Int.reduceNeg, Int.reduceEq, Nat.reduceMod, forall_eq_or_imp, forall_eq, forall_const, cond_true, cond_false, decide_true, decide_false, true_imp_iff, implies_true, Int.cast_ofNat_Int, forall_eq']
      rw [e]
      refine ⟨rfl, ?_, ?_⟩ <;> simp only
      · split <;> omega
      · omega
end Go.Proofs.YtdfiicpikcdokaaDoor
namespace Go.Proofs.YtdfiicpikcdokaaDoor
set_option linter.unusedSimpArgs false
set_option linter.unusedVariables false
open Go.RowKit
set_option maxRecDepth 20000

/-- L is the number of bits of x. -/
def isLen (x L : Nat) : Prop := (x = 0 ∧ L = 0) ∨ (1 ≤ L ∧ 2 ^ (L - 1) ≤ x ∧ x < 2 ^ L)
def len8 (x : Nat) : Nat := bif decide (x = 0) then 0 else bif decide (x < 2) then 1 else bif decide (x < 4) then 2 else bif decide (x < 8) then 3 else bif decide (x < 16) then 4 else bif decide (x < 32) then 5 else bif decide (x < 64) then 6 else bif decide (x < 128) then 7 else 8
theorem len8_ok (x : Nat) (h : x < 256) : isLen x (len8 x) := by
  unfold isLen len8
  by_cases h0 : x = 0
  · simp [h0]
  · right
    simp only [decide_eq_false h0, cond_false]
    by_cases h1 : x < 2
    · simp [h1]; omega
    · by_cases h2 : x < 4
      · simp [h1, h2]; omega
      · by_cases h3 : x < 8
        · simp [h1, h2, h3]; omega
        · by_cases h4 : x < 16
          · simp [h1, h2, h3, h4]; omega
          · by_cases h5 : x < 32
            · simp [h1, h2, h3, h4, h5]; omega
            · by_cases h6 : x < 64
              · simp [h1, h2, h3, h4, h5, h6]; omega
              · by_cases h7 : x < 128
                · simp [h1, h2, h3, h4, h5, h6, h7]; omega
                · simp [h1, h2, h3, h4, h5, h6, h7]; omega
theorem isLen_div {x L k : Nat} (h : isLen (x / 2 ^ k) L) (hx : 2 ^ k ≤ x) : isLen x (L + k) := by
  have hp : 0 < 2 ^ k := Nat.pow_pos (by decide)
  rcases h with ⟨h1, h2⟩ | ⟨h1, h2, h3⟩
  · have : 1 ≤ x / 2 ^ k := (Nat.le_div_iff_mul_le hp).2 (by omega)
    omega
  · refine .inr ⟨by omega, ?_, ?_⟩
    · have := (Nat.le_div_iff_mul_le hp).1 h2
      rw [← Nat.pow_add] at this
      rw [show L + k - 1 = L - 1 + k by omega]; exact this
    · have := (Nat.div_lt_iff_lt_mul hp).1 h3
      rw [← Nat.pow_add] at this; exact this
def lenA (x : Nat) : Nat := bif decide (256 ≤ x) then len8 (x / 256) + 8 else len8 x
def lenB (x : Nat) : Nat := bif decide (65536 ≤ x) then lenA (x / 65536) + 16 else lenA x
def lenC64 (x : Nat) : Nat := bif decide (4294967296 ≤ x) then lenB (x / 4294967296) + 32 else lenB x
theorem lenA_ok (x : Nat) (h : x < 65536) : isLen x (lenA x) := by
  unfold lenA
  by_cases h0 : 256 ≤ x
  · rw [decide_eq_true h0]; exact isLen_div (k := 8) (len8_ok _ (by omega)) h0
  · rw [decide_eq_false h0]; exact len8_ok _ (by omega)
theorem lenB_ok (x : Nat) (h : x < 4294967296) : isLen x (lenB x) := by
  unfold lenB
  by_cases h0 : 65536 ≤ x
  · rw [decide_eq_true h0]; exact isLen_div (k := 16) (lenA_ok _ (by omega)) h0
  · rw [decide_eq_false h0]; exact lenA_ok _ (by omega)
theorem lenC64_ok (x : Nat) (h : x < 18446744073709551616) : isLen x (lenC64 x) := by
  unfold lenC64
  by_cases h0 : 4294967296 ≤ x
  · rw [decide_eq_true h0]; exact isLen_div (k := 32) (lenB_ok _ (by omega)) h0
  · rw [decide_eq_false h0]; exact lenB_ok _ (by omega)
theorem tab8 : ∀ i, i < 256 → (sbyte ⟨#[0, 1, 2, 2, 3, 3, 3, 3, 4, 4, 4, 4, 4, 4, 4, 4, 5, 5, 5, 5, 5, 5, 5, 5, 5, 5, 5, 5, 5, 5, 5, 5, 6, 6, 6, 6, 6, 6, 6, 6, 6, 6, 6, 6, 6, 6, 6, 6, 6, 6, 6, 6, 6, 6, 6, 6, 6, 6, 6, 6, 6, 6, 6, 6, 7, 7, 7, 7, 7, 7, 7, 7, 7, 7, 7, 7, 7, 7, 7, 7, 7, 7, 7, 7, 7, 7, 7, 7, 7, 7, 7, 7, 7, 7, 7, 7, 7, 7, 7, 7, 7, 7, 7, 7, 7, 7, 7, 7, 7, 7, 7, 7, 7, 7, 7, 7, 7, 7, 7, 7, 7, 7, 7, 7, 7, 7, 7, 7, 8, 8, 8, 8, 8, 8, 8, 8, 8, 8, 8, 8, 8, 8, 8, 8, 8, 8, 8, 8, 8, 8, 8, 8, 8, 8, 8, 8, 8, 8, 8, 8, 8, 8, 8, 8, 8, 8, 8, 8, 8, 8, 8, 8, 8, 8, 8, 8, 8, 8, 8, 8, 8, 8, 8, 8, 8, 8, 8, 8, 8, 8, 8, 8, 8, 8, 8, 8, 8, 8, 8, 8, 8, 8, 8, 8, 8, 8, 8, 8, 8, 8, 8, 8, 8, 8, 8, 8, 8, 8, 8, 8, 8, 8, 8, 8, 8, 8, 8, 8, 8, 8, 8, 8, 8, 8, 8, 8, 8, 8, 8, 8, 8, 8, 8, 8, 8, 8, 8, 8, 8, 8, 8, 8, 8, 8, 8, 8]⟩ i).toNat = len8 i := by decide +kernel
theorem fdiv_16 (x : Int) : x.fdiv (2 ^ 16) = x / 65536 := Int.fdiv_eq_ediv_of_nonneg _ (by decide)
theorem fdiv_8 (x : Int) : x.fdiv (2 ^ 8) = x / 256 := Int.fdiv_eq_ediv_of_nonneg _ (by decide)
theorem len8_le (n : Nat) : len8 n ≤ 8 := by
  unfold len8
  cases decide (n = 0) <;> cases decide (n < 2) <;> cases decide (n < 4) <;> cases decide (n < 8) <;> cases decide (n < 16) <;> cases decide (n < 32) <;> cases decide (n < 64) <;> cases decide (n < 128) <;> simp
theorem leaf8 {tb : ByteArray} (ht : ∀ i, i < 256 → (sbyte tb i).toNat = len8 i) (hs : tb.size = 256) {e : Int} (n : Nat) (he : e = n) (hn : n < 256) {b : Int} (B : Nat) (hb : b = B) (hB : B ≤ 56) {L : Nat} (hL : L = len8 n + B) :
    (0 ≤ e % 256 ∧ (e % 256).toNat < tb.size) ∧ In64 ((sbyte tb (e % 256).toNat).toNat : Int) ∧ In64 (b + ((sbyte tb (e % 256).toNat).toNat : Int)) ∧ b + ((sbyte tb (e % 256).toNat).toNat : Int) = L := by
  subst he; subst hb
  have h1 : ((n : Int) % 256).toNat = n := by omega
  have h2 := len8_le n
  rw [h1, ht n hn, hs]
  unfold In64
  omega
theorem ev_len64 (x : Nat) (h : x < 18446744073709551616) : Ev Tryd.prog 63 [U64 x] (.sc (.int .i64 (lenC64 x))) := by
  have ht := tab8
  have hs : ByteArray.size (⟨#[0, 1, 2, 2, 3, 3, 3, 3, 4, 4, 4, 4, 4, 4, 4, 4, 5, 5, 5, 5, 5, 5, 5, 5, 5, 5, 5, 5, 5, 5, 5, 5, 6, 6, 6, 6, 6, 6, 6, 6, 6, 6, 6, 6, 6, 6, 6, 6, 6, 6, 6, 6, 6, 6, 6, 6, 6, 6, 6, 6, 6, 6, 6, 6, 7, 7, 7, 7, 7, 7, 7, 7, 7, 7, 7, 7, 7, 7, 7, 7, 7, 7, 7, 7, 7, 7, 7, 7, 7, 7, 7, 7, 7, 7, 7, 7, 7, 7, 7, 7, 7, 7, 7, 7, 7, 7, 7, 7, 7, 7, 7, 7, 7, 7, 7, 7, 7, 7, 7, 7, 7, 7, 7, 7, 7, 7, 7, 7, 8, 8, 8, 8, 8, 8, 8, 8, 8, 8, 8, 8, 8, 8, 8, 8, 8, 8, 8, 8, 8, 8, 8, 8, 8, 8, 8, 8, 8, 8, 8, 8, 8, 8, 8, 8, 8, 8, 8, 8, 8, 8, 8, 8, 8, 8, 8, 8, 8, 8, 8, 8, 8, 8, 8, 8, 8, 8, 8, 8, 8, 8, 8, 8, 8, 8, 8, 8, 8, 8, 8, 8, 8, 8, 8, 8, 8, 8, 8, 8, 8, 8, 8, 8, 8, 8, 8, 8, 8, 8, 8, 8, 8, 8, 8, 8, 8, 8, 8, 8, 8, 8, 8, 8, 8, 8, 8, 8, 8, 8, 8, 8, 8, 8, 8, 8, 8, 8, 8, 8, 8, 8, 8, 8, 8, 8, 8, 8]⟩ : ByteArray) = 256 := by decide +kernel
  refine ev_fn Tryd.func63 comp63 (show 1 ≤ Tryd.f63.ntmps by decide) ?_; unfold cf63 rf63; simp only [↓EVP0, EVQ0, EVQ1, EVQ2, EVQ3, EVQ4, EVA, EVK, EVFR, ↓reduceIte, Nat.reduceEqDiff, Nat.reduceAdd, Nat.reduceSub, Nat.reduceMul, Nat.reduceLT, Nat.reduceLeDiff, reduceCtorEq, Int.reduceToNat, Int.reduceLT, Int.reduceLE, Int.reduceAdd, Int.reduceSub, Int.reduceMul, Int.reduceNeg, Int.reduceEq, Nat.reduceMod, forall_eq_or_imp, forall_eq, forall_const, cond_true, cond_false, decide_true, decide_false, true_imp_iff, implies_true, Int.cast_ofNat_Int, forall_eq']
  generalize (⟨#[0, 1, 2, 2, 3, 3, 3, 3, 4, 4, 4, 4, 4, 4, 4, 4, 5, 5, 5, 5, 5, 5, 5, 5, 5, 5, 5, 5, 5, 5, 5, 5, 6, 6, 6, 6, 6, 6, 6, 6, 6, 6, 6, 6, 6, 6, 6, 6, 6, 6, 6, 6, 6, 6, 6, 6, 6, 6, 6, 6, 6, 6, 6, 6, 7, 7, 7, 7, 7, 7, 7, 7, 7, 7, 7, 7, 7, 7, 7, 7, 7, 7, 7, 7, 7, 7, 7, 7, 7, 7, 7, 7, 7, 7, 7, 7, 7, 7, 7, 7, 7, 7, 7, 7, 7, 7, 7, 7, 7, 7, 7, 7, 7, 7, 7, 7, 7, 7, 7, 7, 7, 7, 7, 7, 7, 7, 7, 7, 8, 8, 8, 8, 8, 8, 8, 8, 8, 8, 8, 8, 8, 8, 8, 8, 8, 8, 8, 8, 8, 8, 8, 8, 8, 8, 8, 8, 8, 8, 8, 8, 8, 8, 8, 8, 8, 8, 8, 8, 8, 8, 8, 8, 8, 8, 8, 8, 8, 8, 8, 8, 8, 8, 8, 8, 8, 8, 8, 8, 8, 8, 8, 8, 8, 8, 8, 8, 8, 8, 8, 8, 8, 8, 8, 8, 8, 8, 8, 8, 8, 8, 8, 8, 8, 8, 8, 8, 8, 8, 8, 8, 8, 8, 8, 8, 8, 8, 8, 8, 8, 8, 8, 8, 8, 8, 8, 8, 8, 8, 8, 8, 8, 8, 8, 8, 8, 8, 8, 8, 8, 8, 8, 8, 8, 8, 8, 8]⟩ : ByteArray) = tb at *
  simp only [fdiv_16, fdiv_8, show ∀ x : Int, IntKind.u8.wrap x = x % 256 from fun x => IntKind.wrap_u8 x]
  have i64 : ∀ n : Int, 0 ≤ n → n ≤ 56 → In64 n := fun n a b => by unfold In64; omega
  unfold lenC64 lenB lenA
  refine ⟨fun a => ⟨fun b => ⟨i64 _ (by decide) (by decide), fun c => ⟨i64 _ (by decide) (by decide), ?_⟩, fun c => ?_⟩, fun b => ⟨fun c => ⟨i64 _ (by decide) (by decide), ?_⟩, fun c => ?_⟩⟩, fun a => ⟨fun b => ⟨i64 _ (by decide) (by decide), fun c => ⟨i64 _ (by decide) (by decide), ?_⟩, fun c => ?_⟩, fun b => ⟨fun c => ⟨i64 _ (by decide) (by decide), ?_⟩, fun c => ?_⟩⟩⟩
  all_goals simp only [decide_eq_true_eq, decide_eq_false_iff_not] at a b c
  · have a' : 4294967296 ≤ x := by omega
    have b' : 65536 ≤ x / 4294967296 := by omega
    have c' : 256 ≤ x / 4294967296 / 65536 := by omega
    exact leaf8 ht hs (x / 4294967296 / 65536 / 256) (by omega) (by omega) 56 rfl (by decide) (by simp [a', b', c'])
  · have a' : 4294967296 ≤ x := by omega
    have b' : 65536 ≤ x / 4294967296 := by omega
    have c' : ¬ 256 ≤ x / 4294967296 / 65536 := by omega
    exact leaf8 ht hs (x / 4294967296 / 65536) (by omega) (by omega) 48 rfl (by decide) (by simp [a', b', c'])
  · have a' : 4294967296 ≤ x := by omega
    have b' : ¬ 65536 ≤ x / 4294967296 := by omega
    have c' : 256 ≤ x / 4294967296 := by omega
    exact leaf8 ht hs (x / 4294967296 / 256) (by omega) (by omega) 40 rfl (by decide) (by simp [a', b', c'])
  · have a' : 4294967296 ≤ x := by omega
    have b' : ¬ 65536 ≤ x / 4294967296 := by omega
    have c' : ¬ 256 ≤ x / 4294967296 := by omega
    exact leaf8 ht hs (x / 4294967296) (by omega) (by omega) 32 rfl (by decide) (by simp [a', b', c'])
  · have a' : ¬ 4294967296 ≤ x := by omega
    have b' : 65536 ≤ x := by omega
    have c' : 256 ≤ x / 65536 := by omega
    exact leaf8 ht hs (x / 65536 / 256) (by omega) (by omega) 24 rfl (by decide) (by simp [a', b', c'])
  · have a' : ¬ 4294967296 ≤ x := by omega
    have b' : 65536 ≤ x := by omega
    have c' : ¬ 256 ≤ x / 65536 := by omega
    exact leaf8 ht hs (x / 65536) (by omega) (by omega) 16 rfl (by decide) (by simp [a', b', c'])
  · have a' : ¬ 4294967296 ≤ x := by omega
    have b' : ¬ 65536 ≤ x := by omega
    have c' : 256 ≤ x := by omega
    exact leaf8 ht hs (x / 256) (by omega) (by omega) 8 rfl (by decide) (by simp [a', b', c'])
  · have a' : ¬ 4294967296 ≤ x := by omega
    have b' : ¬ 65536 ≤ x := by omega
    have c' : ¬ 256 ≤ x := by omega
    exact leaf8 ht hs x (by omega) (by omega) 0 rfl (by decide) (by simp [a', b', c'])
theorem ev_lz64 (x : Nat) (h : x < 18446744073709551616) : Ev Tryd.prog 60 [U64 x] (.sc (.int .i64 (64 - (lenC64 x : Int)))) := by
  have h1 := ev_len64 x h
  have hl := lenC64_ok x h
  have hle : lenC64 x ≤ 64 := by
    rcases hl with ⟨_, h2⟩ | ⟨h2, h3, _⟩
    · omega
    · rcases Nat.lt_or_ge 64 (lenC64 x) with hlt | hge
      · have : 2 ^ 64 ≤ 2 ^ (lenC64 x - 1) := Nat.pow_le_pow_right (by decide) (by omega)
        have e : (2 : Nat) ^ 64 = 18446744073709551616 := by decide
        omega
      · exact hge
  refine ev_fn Tryd.func60 comp60 (show 1 ≤ Tryd.f60.ntmps by decide) ?_; unfold cf60 rf60; simp only [↓EVP0, EVQ0, EVQ1, EVQ2, EVQ3, EVQ4, EVA, EVK, EVFR, ↓reduceIte, Nat.reduceEqDiff, Nat.reduceAdd, Nat.reduceSub, Nat.reduceMul, Nat.reduceLT, Nat.reduceLeDiff, reduceCtorEq, Int.reduceToNat, Int.reduceLT, Int.reduceLE, Int.reduceAdd, Int.reduceSub, Int.reduceMul, Int.reduceNeg, Int.reduceEq, Nat.reduceMod, forall_eq_or_imp, forall_eq, forall_const, cond_true, cond_false, decide_true, decide_false, true_imp_iff, implies_true, Int.cast_ofNat_Int, forall_eq']
  refine callK_ro (h1) ?_ ?_
  · simp only [↓EVP0, EVQ0, EVQ1, EVQ2, EVQ3, EVQ4, EVA, EVK, EVFR, ↓reduceIte, Nat.reduceEqDiff, Nat.reduceAdd, Nat.reduceSub, Nat.reduceMul, Nat.reduceLT, Nat.reduceLeDiff, reduceCtorEq, Int.reduceToNat, Int.reduceLT, Int.reduceLE, Int.reduceAdd, Int.reduceSub, Int.reduceMul, Int.reduceNeg, Int.reduceEq, Nat.reduceMod, forall_eq_or_imp, forall_eq, forall_const, cond_true, cond_false, decide_true, decide_false, true_imp_iff, implies_true, Int.cast_ofNat_Int, forall_eq']
  simp only [↓EVP0, EVQ0, EVQ1, EVQ2, EVQ3, EVQ4, EVA, EVK, EVFR, ↓reduceIte, Nat.reduceEqDiff, Nat.reduceAdd, Nat.reduceSub, Nat.reduceMul, Nat.reduceLT, Nat.reduceLeDiff, reduceCtorEq, Int.reduceToNat, Int.reduceLT, Int.reduceLE, Int.reduceAdd, Int.reduceSub, Int.reduceMul, Int.reduceNeg, Int.reduceEq, Nat.reduceMod, forall_eq_or_imp, forall_eq, forall_const, cond_true, cond_false, decide_true, decide_false, true_imp_iff, implies_true, Int.cast_ofNat_Int, forall_eq']
  unfold In64; omega
end Go.Proofs.YtdfiicpikcdokaaDoor
namespace Go.Proofs.YtdfiicpikcdokaaDoor
set_option linter.unusedSimpArgs false
set_option linter.unusedVariables false
open Go.RowKit
set_option maxRecDepth 20000

/-- What holds while the estimate q of a digit is lowered: y = y1 * 2^32 + y0 the divisor, u the high part, a the next digit, Q the digit itself. -/
structure KInv (y u a q r : Nat) : Prop where
  eq : q * (y / 4294967296) + r = u
  ge : (u * 4294967296 + a) / y ≤ q
  le : q ≤ 4294967297
  rb : r < 8589934592
  hi : 4294967296 ≤ r → q ≤ 4294967296
theorem k_start {y u a : Nat} (hy : 9223372036854775808 ≤ y) (hy2 : y < 18446744073709551616) (hu : u < y) (ha : a < 4294967296) : KInv y u a (u / (y / 4294967296)) (u - u / (y / 4294967296) * (y / 4294967296)) := by
  have hy1 : 2147483648 ≤ y / 4294967296 := by omega
  have hy1' : y / 4294967296 < 4294967296 := by omega
  have hdm := Nat.div_add_mod u (y / 4294967296)
  have hm := Nat.mod_lt u (show 0 < y / 4294967296 by omega)
  rw [Nat.mul_comm] at hdm
  have hsub : u - u / (y / 4294967296) * (y / 4294967296) = u % (y / 4294967296) := by omega
  rw [hsub]
  refine ⟨hdm, ?_, ?_, by omega, fun h => by omega⟩
  · -- the true digit is at most the estimate
    have hyd := Nat.div_add_mod y 4294967296
    refine Nat.le_of_lt_succ ((Nat.div_lt_iff_lt_mul (by omega)).2 ?_)
    have h1 : u + 1 ≤ (u / (y / 4294967296) + 1) * (y / 4294967296) := by
      rw [Nat.add_mul, Nat.one_mul]; omega
    have h2 : (u + 1) * 4294967296 ≤ (u / (y / 4294967296) + 1) * (y / 4294967296) * 4294967296 := Nat.mul_le_mul_right _ h1
    have h3 : (u / (y / 4294967296) + 1) * (y / 4294967296) * 4294967296 ≤ (u / (y / 4294967296) + 1) * y := by
      rw [Nat.mul_assoc]
      exact Nat.mul_le_mul_left _ (Nat.div_mul_le_self _ _)
    have h4 : y * (u / (y / 4294967296) + 1) = (u / (y / 4294967296) + 1) * y := Nat.mul_comm _ _
    show u * 4294967296 + a < (u / (y / 4294967296) + 1) * y
    omega
  · have : u / (y / 4294967296) < 4294967298 := by
      rw [Nat.div_lt_iff_lt_mul (by omega)]
      omega
    omega
theorem k_step {y u a q r : Nat} (hy : 9223372036854775808 ≤ y) (hy2 : y < 18446744073709551616) (hu : u < y) (ha : a < 4294967296) (h : KInv y u a q r) (hr : r < 4294967296) (hc : 4294967296 ≤ q ∨ 4294967296 * r + a < q * (y % 4294967296)) :
    KInv y u a (q - 1) (r + y / 4294967296) ∧ 1 ≤ q := by
  have hq1 : 1 ≤ q := by
    rcases hc with h1 | h1
    · omega
    · rcases Nat.eq_zero_or_pos q with rfl | hp
      · rw [Nat.zero_mul] at h1; omega
      · exact hp
  obtain ⟨k, rfl⟩ : ∃ k, q = k + 1 := ⟨q - 1, by omega⟩
  have he := h.eq
  rw [Nat.add_mul, Nat.one_mul] at he
  refine ⟨⟨by simp only [Nat.add_sub_cancel]; omega, ?_, by have := h.le; omega, by omega, fun _ => by have := h.le; omega⟩, hq1⟩
  simp only [Nat.add_sub_cancel]
  -- the true digit is below q
  have hlt : (u * 4294967296 + a) / y < k + 1 := by
    rw [Nat.div_lt_iff_lt_mul (by omega)]
    rcases hc with h1 | h1
    · have h2 : 4294967296 * y ≤ (k + 1) * y := Nat.mul_le_mul_right _ h1
      have h3 : (u + 1) * 4294967296 ≤ y * 4294967296 := Nat.mul_le_mul_right _ hu
      generalize (k + 1) * y = z at *
      omega
    · have hyd := Nat.div_add_mod y 4294967296
      have h2 : (k + 1) * y = (k + 1) * (y / 4294967296) * 4294967296 + (k + 1) * (y % 4294967296) := by
        have : (k + 1) * y = (k + 1) * (4294967296 * (y / 4294967296) + y % 4294967296) := by rw [hyd]
        rw [this, Nat.mul_add, Nat.mul_left_comm, ← Nat.mul_assoc, Nat.mul_comm 4294967296, Nat.mul_assoc, Nat.mul_comm 4294967296, ← Nat.mul_assoc]
      have h3 : (k + 1) * (y / 4294967296) = k * (y / 4294967296) + y / 4294967296 := by rw [Nat.add_mul, Nat.one_mul]
      generalize (k + 1) * y = z at *
      generalize (k + 1) * (y % 4294967296) = p at *
      generalize (k + 1) * (y / 4294967296) = p2 at *
      generalize k * (y / 4294967296) = p3 at *
      omega
  omega
theorem k_end {y u a q r : Nat} (hy : 9223372036854775808 ≤ y) (hy2 : y < 18446744073709551616) (hu : u < y) (ha : a < 4294967296) (h : KInv y u a q r) (hc : 4294967296 ≤ r ∨ (q < 4294967296 ∧ q * (y % 4294967296) ≤ 4294967296 * r + a)) :
    q = (u * 4294967296 + a) / y := by
  apply Nat.le_antisymm _ h.ge
  rw [Nat.le_div_iff_mul_le (by omega)]
  have hyd := Nat.div_add_mod y 4294967296
  have h2 : q * y = q * (y / 4294967296) * 4294967296 + q * (y % 4294967296) := by
    have : q * y = q * (4294967296 * (y / 4294967296) + y % 4294967296) := by rw [hyd]
    rw [this, Nat.mul_add, Nat.mul_left_comm, ← Nat.mul_assoc, Nat.mul_comm 4294967296, Nat.mul_assoc, Nat.mul_comm 4294967296, ← Nat.mul_assoc]
  have he := h.eq
  rcases hc with h1 | ⟨h1, h3⟩
  · have hq := h.hi h1
    have h4 : q * (y % 4294967296) ≤ 4294967296 * 4294967295 := Nat.mul_le_mul hq (by omega)
    generalize q * (y % 4294967296) = p at *
    generalize q * (y / 4294967296) = p2 at *
    generalize q * y = z at *
    omega
  · generalize q * (y % 4294967296) = p at *
    generalize q * (y / 4294967296) = p2 at *
    generalize q * y = z at *
    omega
theorem k_digit {y u a : Nat} (hu : u < y) (ha : a < 4294967296) : (u * 4294967296 + a) / y < 4294967296 := by
  rw [Nat.div_lt_iff_lt_mul (by omega)]
  have h3 : (u + 1) * 4294967296 ≤ y * 4294967296 := Nat.mul_le_mul_right _ hu
  omega
end Go.Proofs.YtdfiicpikcdokaaDoor
namespace Go.Proofs.YtdfiicpikcdokaaDoor
set_option linter.unusedSimpArgs false
set_option linter.unusedVariables false
open Go.RowKit
set_option maxRecDepth 20000

theorem lz_facts {y : Nat} (h0 : 0 < y) (h : y < 18446744073709551616) : ∃ s : Nat, s ≤ 63 ∧ (64 - (lenC64 y : Int)) = (s : Int) ∧ 9223372036854775808 ≤ y * 2 ^ s ∧ y * 2 ^ s < 18446744073709551616 := by
  rcases lenC64_ok y h with ⟨h1, _⟩ | ⟨h1, h2, h3⟩
  · omega
  · have hle : lenC64 y ≤ 64 := by
      rcases Nat.lt_or_ge 64 (lenC64 y) with hlt | hge
      · have : 2 ^ 64 ≤ 2 ^ (lenC64 y - 1) := Nat.pow_le_pow_right (by decide) (by omega)
        have e : (2 : Nat) ^ 64 = 18446744073709551616 := by decide
        omega
      · exact hge
    refine ⟨64 - lenC64 y, by omega, by omega, ?_, ?_⟩
    · have := Nat.mul_le_mul_right (2 ^ (64 - lenC64 y)) h2
      rw [← Nat.pow_add, show lenC64 y - 1 + (64 - lenC64 y) = 63 by omega] at this
      exact Nat.le_trans (by decide) this
    · have := (Nat.mul_lt_mul_right (a := 2 ^ (64 - lenC64 y)) (Nat.pow_pos (by decide))).2 h3
      rw [← Nat.pow_add, show lenC64 y + (64 - lenC64 y) = 64 by omega] at this
      exact Nat.lt_of_lt_of_le this (by decide)
theorem shl_nat (a s : Nat) : ((a : Int) * 2 ^ s) % 18446744073709551616 = ((a * 2 ^ s % 18446744073709551616 : Nat) : Int) := by
  rw [Int.natCast_emod, Int.natCast_mul, Int.natCast_pow]; rfl
theorem shr_nat (a s : Nat) : ((a : Int)).fdiv (2 ^ s) = ((a / 2 ^ s : Nat) : Int) := by
  rw [Int.fdiv_eq_ediv_of_nonneg _ (by exact Int.pow_nonneg (by decide)), Int.natCast_ediv, Int.natCast_pow]; rfl
theorem or_add (a b s : Nat) (ha : a * 2 ^ s < 18446744073709551616) (hb : b < 2 ^ s) (hb2 : b < 18446744073709551616) : orbI .u64 ((a * 2 ^ s : Nat) : Int) ((b : Nat) : Int) = ((a * 2 ^ s + b : Nat) : Int) := by
  unfold orbI
  rw [wrap_u64]
  have hn : ∀ n : Nat, n < 18446744073709551616 → (BitVec.ofInt IntKind.u64.bits ((n : Nat) : Int)).toNat = n := by
    intro n hn
    have : (BitVec.ofInt 64 ((n : Nat) : Int)).toNat = n := by
      rw [BitVec.toNat_ofInt]
      have : ((n : Int) % ((2 ^ 64 : Nat) : Int)).toNat = n := by omega
      exact this
    exact this
  rw [BitVec.toNat_or, hn _ ha, hn _ hb2, Nat.mul_comm a, ← Nat.two_pow_add_eq_or_of_lt hb]
  have hlt : 2 ^ s * a + b < 18446744073709551616 := by
    rw [Nat.mul_comm] at ha
    have h1 : 2 ^ s * a + b < 2 ^ s * (a + 1) := by rw [Nat.mul_succ]; omega
    rcases Nat.lt_or_ge s 64 with hs | hs
    · have hd : 2 ^ s * 2 ^ (64 - s) = 18446744073709551616 := by rw [← Nat.pow_add, show s + (64 - s) = 64 by omega]
      have : a < 2 ^ (64 - s) := by
        rw [← hd] at ha
        exact Nat.lt_of_mul_lt_mul_left ha
      have h2 : 2 ^ s * (a + 1) ≤ 2 ^ s * 2 ^ (64 - s) := Nat.mul_le_mul_left _ this
      omega
    · rcases Nat.eq_zero_or_pos a with rfl | hp
      · omega
      · have h2 : 2 ^ 64 ≤ 2 ^ s := Nat.pow_le_pow_right (by decide) hs
        have h3 : 2 ^ s * 1 ≤ 2 ^ s * a := Nat.mul_le_mul_left _ hp
        have e : (2 : Nat) ^ 64 = 18446744073709551616 := by decide
        omega
  omega
/-- The first estimate, and the end of the lowering, as the program reckons them. -/
theorem k_first {Y u a : Nat} (hy : 9223372036854775808 ≤ Y) (hy2 : Y < 18446744073709551616) (hu : u < Y) (ks : KInv Y u a (u / (Y / 4294967296)) (u - u / (Y / 4294967296) * (Y / 4294967296))) :
    ((u : Int)).tdiv ((Y / 4294967296 : Nat) : Int) % 18446744073709551616 = ((u / (Y / 4294967296) : Nat) : Int) ∧
    ((u : Int) - ((u / (Y / 4294967296) : Nat) : Int) * ((Y / 4294967296 : Nat) : Int) % 18446744073709551616) % 18446744073709551616 = ((u - u / (Y / 4294967296) * (Y / 4294967296) : Nat) : Int) := by
  have h1 := ks.le
  have h2 := Nat.div_mul_le_self u (Y / 4294967296)
  rw [← Int.ofNat_tdiv, ← Int.natCast_mul]
  generalize u / (Y / 4294967296) * (Y / 4294967296) = p at *
  generalize u / (Y / 4294967296) = q at *
  omega
theorem k_cond {Y u a q r : Nat} (hk : KInv Y u a q r) (hr : r < 4294967296) (ha : a < 4294967296) :
    (bif decide ((4294967296 : Int) ≤ q) then true else decide ((4294967296 * (r : Int) % 18446744073709551616 + (a : Int)) % 18446744073709551616 < (q : Int) * ((Y % 4294967296 : Nat) : Int) % 18446744073709551616)) = (decide (4294967296 ≤ q) || decide (4294967296 * r + a < q * (Y % 4294967296))) := by
  have h1 := hk.le
  have h2 : q * (Y % 4294967296) ≤ 4294967297 * 4294967295 := Nat.mul_le_mul h1 (by omega)
  rw [condT, ← Int.natCast_mul]
  generalize q * (Y % 4294967296) = p at *
  rw [Bool.eq_iff_iff]
  simp only [Bool.or_eq_true, decide_eq_true_eq]
  omega
theorem ev_div64 (hi lo y : Nat) (h1 : hi < y) (h2 : y < 18446744073709551616) (h3 : lo < 18446744073709551616) :
    Ev Tryd.prog 52 [U64 hi, U64 lo, U64 y] (.tup [U64 ((hi * 18446744073709551616 + lo) / y), U64 ((hi * 18446744073709551616 + lo) % y)]) := by
  obtain ⟨s, s1, s2, s3, s4⟩ := lz_facts (y := y) (by omega) h2
  have hl := ev_lz64 y h2
  rw [s2] at hl
  refine ev_fn Tryd.func52 comp52 (show 3 ≤ Tryd.f52.ntmps by decide) ?_; unfold cf52 rf52; simp only [↓EVP0, EVQ0, EVQ1, EVQ2, EVQ3, EVQ4, EVA, EVK, EVFR, ↓reduceIte, Nat.reduceEqDiff, Nat.reduceAdd, Nat.reduceSub, Nat.reduceMul, Nat.reduceLT, Nat.reduceLeDiff, reduceCtorEq, Int.reduceToNat, Int.reduceLT, Int.reduceLE, Int.reduceAdd, Int.reduceSub, Int.reduceMul, Int.reduceNeg, Int.reduceEq, Nat.reduceMod, forall_eq_or_imp, forall_eq, forall_const, cond_true, cond_false, decide_true, decide_false, true_imp_iff, implies_true, Int.cast_ofNat_Int, forall_eq']
  refine ⟨fun g => by simp at g; omega, fun _ => ⟨fun g => by simp at g; omega, fun _ => ⟨fun g => ?_, fun g => ?_⟩⟩⟩
  · have h0 : hi = 0 := by simp at g; exact g
    subst h0
    refine ⟨by omega, by omega, ?_, ?_⟩
    · have e : ((lo : Int)).tdiv y = ((lo / y : Nat) : Int) := (Int.ofNat_tdiv lo y).symm
      have : lo / y ≤ lo := Nat.div_le_self _ _
      rw [Nat.zero_mul, Nat.zero_add, e]
      generalize lo / y = z at *
      omega
    · rw [Nat.zero_mul, Nat.zero_add]; exact (Int.ofNat_tmod _ _).symm
  · refine callK_ro (hl) ?_ ?_
    · simp only [↓EVP0, EVQ0, EVQ1, EVQ2, EVQ3, EVQ4, EVA, EVK, EVFR, ↓reduceIte, Nat.reduceEqDiff, Nat.reduceAdd, Nat.reduceSub, Nat.reduceMul, Nat.reduceLT, Nat.reduceLeDiff, reduceCtorEq, Int.reduceToNat, Int.reduceLT, Int.reduceLE, Int.reduceAdd, Int.reduceSub, Int.reduceMul, Int.reduceNeg, Int.reduceEq, Nat.reduceMod, forall_eq_or_imp, forall_eq, forall_const, cond_true, cond_false, decide_true, decide_false, true_imp_iff, implies_true, Int.cast_ofNat_Int, forall_eq']
    simp only [↓EVP0, EVQ0, EVQ1, EVQ2, EVQ3, EVQ4, EVA, EVK, EVFR, ↓reduceIte, Nat.reduceEqDiff, Nat.reduceAdd, Nat.reduceSub, Nat.reduceMul, Nat.reduceLT, Nat.reduceLeDiff, reduceCtorEq, Int.reduceToNat, Int.reduceLT, Int.reduceLE, Int.reduceAdd, Int.reduceSub, Int.reduceMul, Int.reduceNeg, Int.reduceEq, Nat.reduceMod, forall_eq_or_imp, forall_eq, forall_const, cond_true, cond_false, decide_true, decide_false, true_imp_iff, implies_true, Int.cast_ofNat_Int, forall_eq']
    have e1 : (s : Int) % 18446744073709551616 = s := by omega
    have e2 : (64 - (s : Int)) % 18446744073709551616 = ((64 - s : Nat) : Int) := by omega
    simp only [e1, e2, Int.toNat_natCast, shl_nat, shr_nat]
    have hp : 0 < 2 ^ s := Nat.pow_pos (by decide)
    have hd : 2 ^ (64 - s) * 2 ^ s = 18446744073709551616 := by rw [← Nat.pow_add, show 64 - s + s = 64 by omega]
    have hhi : hi * 2 ^ s < y * 2 ^ s := (Nat.mul_lt_mul_right hp).2 h1
    have hlo : lo / 2 ^ (64 - s) < 2 ^ s := by
      rw [Nat.div_lt_iff_lt_mul (Nat.pow_pos (by decide)), Nat.mul_comm, hd]; exact h3
    have hlo2 : lo / 2 ^ (64 - s) ≤ lo := Nat.div_le_self _ _
    have m1 : y * 2 ^ s % 18446744073709551616 = y * 2 ^ s := Nat.mod_eq_of_lt s4
    have m2 : hi * 2 ^ s % 18446744073709551616 = hi * 2 ^ s := Nat.mod_eq_of_lt (by omega)
    have hor := or_add hi (lo / 2 ^ (64 - s)) s (by omega) hlo (by omega)
    -- the number, shifted
    have hU : (hi * 18446744073709551616 + lo) * 2 ^ s = (hi * 2 ^ s + lo / 2 ^ (64 - s)) * 18446744073709551616 + lo * 2 ^ s % 18446744073709551616 := by
      have h5 : lo * 2 ^ s % 18446744073709551616 = (lo % 2 ^ (64 - s)) * 2 ^ s := by
        rw [← hd, Nat.mul_mod_mul_right]
      have h6 := Nat.div_add_mod lo (2 ^ (64 - s))
      have h7 : lo * 2 ^ s = lo / 2 ^ (64 - s) * 18446744073709551616 + lo % 2 ^ (64 - s) * 2 ^ s := by
        rw [← hd, ← Nat.mul_assoc, ← Nat.add_mul, Nat.mul_comm (lo / _), h6]
      rw [h5, Nat.add_mul, h7, Nat.add_mul]
      have h8 : hi * 18446744073709551616 * 2 ^ s = hi * 2 ^ s * 18446744073709551616 := Nat.mul_right_comm _ _ _
      omega
    have hu : hi * 2 ^ s + lo / 2 ^ (64 - s) < y * 2 ^ s := by
      have : (hi + 1) * 2 ^ s ≤ y * 2 ^ s := Nat.mul_le_mul_right _ h1
      rw [Nat.add_mul, Nat.one_mul] at this
      omega
    have hw : lo * 2 ^ s % 18446744073709551616 < 18446744073709551616 := Nat.mod_lt _ (by decide)
    rw [m1]
    refine ⟨⟨by omega, by omega⟩, ⟨by omega, by omega⟩, ⟨by omega, by omega⟩, ⟨by omega, by omega⟩, by omega, ?_⟩
    have hQ : (hi * 18446744073709551616 + lo) / y = (hi * 18446744073709551616 + lo) * 2 ^ s / (y * 2 ^ s) := (Nat.mul_div_mul_right _ _ hp).symm
    have hR : (hi * 18446744073709551616 + lo) % y = (hi * 18446744073709551616 + lo) * 2 ^ s % (y * 2 ^ s) / 2 ^ s := by rw [Nat.mul_mod_mul_right, Nat.mul_div_cancel _ hp]
    rw [hU] at hQ hR
    generalize hY : y * 2 ^ s = Y at *
    generalize hUn : hi * 2 ^ s + lo / 2 ^ (64 - s) = u at *
    generalize hW : lo * 2 ^ s % 18446744073709551616 = v at *
    have ks := k_start (y := Y) (u := u) (a := v / 4294967296) s3 s4 hu (by omega)
    have hdig := k_digit (a := v / 4294967296) hu (by omega)
    obtain ⟨q1, hq1⟩ : ∃ q1, (u * 4294967296 + v / 4294967296) / Y = q1 := ⟨_, rfl⟩
    obtain ⟨u2, hu2⟩ : ∃ u2, (u * 4294967296 + v / 4294967296) % Y = u2 := ⟨_, rfl⟩
    have hx : Y * q1 + u2 = u * 4294967296 + v / 4294967296 := by rw [← hq1, ← hu2]; exact Nat.div_add_mod _ _
    have hx2 : u2 < Y := by rw [← hu2]; exact Nat.mod_lt _ (by omega)
    rw [hq1] at hdig
    refine lwp_join (α := Unit) (fun _ => True) (fun _ => [(2, .sc (.int .u64 (Y : Int))), (8, .sc (.int .u64 (s : Int))), (9, .sc (.int .u64 ((Y / 4294967296 : Nat) : Int))), (10, .sc (.int .u64 ((Y % 4294967296 : Nat) : Int))), (11, .sc (.int .u64 (u : Int))),
      (13, .sc (.int .u64 ((v / 4294967296 : Nat) : Int))), (14, .sc (.int .u64 ((v % 4294967296 : Nat) : Int))), (15, .sc (.int .u64 (q1 : Int)))]) (fun _ => []) (fun _ => Nat.zero_le _) ?_ ?_
    · simp only [↓EVP0, EVQ0, EVQ1, EVQ2, EVQ3, EVQ4, EVA, EVK, EVFR, ↓reduceIte, Nat.reduceEqDiff, Nat.reduceAdd, Nat.reduceSub, Nat.reduceMul, Nat.reduceLT, Nat.reduceLeDiff, reduceCtorEq, Int.reduceToNat, Int.reduceLT, Int.reduceLE, Int.reduceAdd, Int.reduceSub, Int.reduceMul, Int.reduceNeg, Int.reduceEq, Nat.reduceMod, forall_eq_or_imp, forall_eq, forall_const, cond_true, cond_false, decide_true, decide_false, true_imp_iff, implies_true, Int.cast_ofNat_Int, forall_eq']
      have hr0 : u - u / (Y / 4294967296) * (Y / 4294967296) < 4294967296 := by
        have := ks.eq
        have h5 := Nat.div_add_mod u (Y / 4294967296)
        have h6 := Nat.mod_lt u (show 0 < Y / 4294967296 by omega)
        rw [Nat.mul_comm] at h5
        omega
      refine lwp_loop (α := Nat × Nat) (fun q => KInv Y u (v / 4294967296) q.1 q.2 ∧ q.2 < 4294967296) (fun q => [(2, .sc (.int .u64 (Y : Int))), (8, .sc (.int .u64 (s : Int))), (9, .sc (.int .u64 ((Y / 4294967296 : Nat) : Int))), (10, .sc (.int .u64 ((Y % 4294967296 : Nat) : Int))), (11, .sc (.int .u64 (u : Int))),
        (13, .sc (.int .u64 ((v / 4294967296 : Nat) : Int))), (14, .sc (.int .u64 ((v % 4294967296 : Nat) : Int))), (15, .sc (.int .u64 (q.1 : Int))), (16, .sc (.int .u64 (q.2 : Int)))]) (fun _ => []) (fun q => q.1) (_, _) ⟨ks, hr0⟩ ?_ (fun _ => Nat.zero_le _) ?_
      · simp only [↓EVP0, EVQ0, EVQ1, EVQ2, EVQ3, EVQ4, EVA, EVK, EVFR, ↓reduceIte, Nat.reduceEqDiff, Nat.reduceAdd, Nat.reduceSub, Nat.reduceMul, Nat.reduceLT, Nat.reduceLeDiff, reduceCtorEq, Int.reduceToNat, Int.reduceLT, Int.reduceLE, Int.reduceAdd, Int.reduceSub, Int.reduceMul, Int.reduceNeg, Int.reduceEq, Nat.reduceMod, forall_eq_or_imp, forall_eq, forall_const, cond_true, cond_false, decide_true, decide_false, true_imp_iff, implies_true, Int.cast_ofNat_Int, forall_eq']
        have ey : (Y : Int) / 4294967296 = ((Y / 4294967296 : Nat) : Int) := by omega
        obtain ⟨f1, f2⟩ := k_first s3 s4 hu ks
        rw [m2, hor, ey, f1, f2]
        exact ⟨rfl, by omega, rfl, by omega, by omega, rfl, rfl⟩
      rintro ⟨q, r⟩ ⟨hk, hr⟩
      have hkc := k_cond hk hr (by omega)
      unfold lb52_1
      simp only [↓EVP0, EVQ0, EVQ1, EVQ2, EVQ3, EVQ4, EVA, EVK, EVFR, ↓reduceIte, Nat.reduceEqDiff, Nat.reduceAdd, Nat.reduceSub, Nat.reduceMul, Nat.reduceLT, Nat.reduceLeDiff, reduceCtorEq, Int.reduceToNat, Int.reduceLT, Int.reduceLE, Int.reduceAdd, Int.reduceSub, Int.reduceMul, Int.reduceNeg, Int.reduceEq, Nat.reduceMod, forall_eq_or_imp, forall_eq, forall_const, cond_true, cond_false, decide_true, decide_false, true_imp_iff, implies_true, Int.cast_ofNat_Int, forall_eq']
      rw [hkc]
      refine ⟨fun hc => ?_, fun hc => ?_⟩
      · obtain ⟨hk2, hqp⟩ := k_step s3 s4 hu (by omega) hk hr (by simpa using hc)
        have hq2 := hk.le
        refine ⟨fun hb => ⟨(), ?_⟩, fun hb => ⟨(q - 1, r + Y / 4294967296), ⟨hk2, ?_⟩, ⟨?_, ?_⟩, ?_⟩⟩
        · have he := k_end s3 s4 hu (by omega) hk2 (.inl (by simp at hb; omega))
          rw [hq1] at he
          omega
        · simp at hb ⊢; omega
        · simp only; omega
        · simp only; omega
        · simp only; omega
      · refine ⟨(), ?_⟩
        have he := k_end s3 s4 hu (by omega) hk (.inr (by simp at hc; omega))
        rw [hq1] at he
        simp only at he
        rw [he]
    rintro _ _
    simp only [↓EVP0, EVQ0, EVQ1, EVQ2, EVQ3, EVQ4, EVA, EVK, EVFR, ↓reduceIte, Nat.reduceEqDiff, Nat.reduceAdd, Nat.reduceSub, Nat.reduceMul, Nat.reduceLT, Nat.reduceLeDiff, reduceCtorEq, Int.reduceToNat, Int.reduceLT, Int.reduceLE, Int.reduceAdd, Int.reduceSub, Int.reduceMul, Int.reduceNeg, Int.reduceEq, Nat.reduceMod, forall_eq_or_imp, forall_eq, forall_const, cond_true, cond_false, decide_true, decide_false, true_imp_iff, implies_true, Int.cast_ofNat_Int, forall_eq']
    -- what is left for the second digit
    have h17 : (((u : Int) * 4294967296 % 18446744073709551616 + ((v / 4294967296 : Nat) : Int)) % 18446744073709551616 - (q1 : Int) * (Y : Int) % 18446744073709551616) % 18446744073709551616 = (u2 : Int) := by
      have : (q1 : Int) * (Y : Int) = ((Y * q1 : Nat) : Int) := by rw [Int.natCast_mul, Int.mul_comm]
      rw [this]
      omega
    have ks2 := k_start (y := Y) (u := u2) (a := v % 4294967296) s3 s4 hx2 (by omega)
    have hdig2 := k_digit (a := v % 4294967296) hx2 (by omega)
    refine ⟨by omega, ?_⟩
    have hr02 : u2 - u2 / (Y / 4294967296) * (Y / 4294967296) < 4294967296 := by
      have h5 := Nat.div_add_mod u2 (Y / 4294967296)
      have h6 := Nat.mod_lt u2 (show 0 < Y / 4294967296 by omega)
      rw [Nat.mul_comm] at h5
      omega
    obtain ⟨q0, hq0⟩ : ∃ q0, (u2 * 4294967296 + v % 4294967296) / Y = q0 := ⟨_, rfl⟩
    obtain ⟨u3, hu3⟩ : ∃ u3, (u2 * 4294967296 + v % 4294967296) % Y = u3 := ⟨_, rfl⟩
    have hy : Y * q0 + u3 = u2 * 4294967296 + v % 4294967296 := by rw [← hq0, ← hu3]; exact Nat.div_add_mod _ _
    have hy2 : u3 < Y := by rw [← hu3]; exact Nat.mod_lt _ (by omega)
    rw [hq0] at hdig2
    -- the whole quotient and rest
    have hall : u * 18446744073709551616 + v = Y * (q1 * 4294967296 + q0) + u3 := by
      rw [Nat.mul_add, ← Nat.mul_assoc]
      omega
    have hQ2 : (hi * 18446744073709551616 + lo) / y = q1 * 4294967296 + q0 := by
      rw [hQ, hall, Nat.mul_add_div (by omega), Nat.div_eq_of_lt hy2, Nat.add_zero]
    have hR2 : (hi * 18446744073709551616 + lo) % y = u3 / 2 ^ s := by
      rw [hR, hall, Nat.mul_add_mod, Nat.mod_eq_of_lt hy2]
    refine lwp_loop (α := Nat × Nat) (fun q => KInv Y u2 (v % 4294967296) q.1 q.2 ∧ q.2 < 4294967296) (fun q => [(2, .sc (.int .u64 (Y : Int))), (8, .sc (.int .u64 (s : Int))), (9, .sc (.int .u64 ((Y / 4294967296 : Nat) : Int))), (10, .sc (.int .u64 ((Y % 4294967296 : Nat) : Int))),
      (14, .sc (.int .u64 ((v % 4294967296 : Nat) : Int))), (15, .sc (.int .u64 (q1 : Int))), (17, .sc (.int .u64 (u2 : Int))), (18, .sc (.int .u64 (q.1 : Int))), (16, .sc (.int .u64 (q.2 : Int)))]) (fun _ => []) (fun q => q.1) (_, _) ⟨ks2, hr02⟩ ?_ (fun _ => Nat.zero_le _) ?_
    · simp only [↓EVP0, EVQ0, EVQ1, EVQ2, EVQ3, EVQ4, EVA, EVK, EVFR, ↓reduceIte, Nat.reduceEqDiff, Nat.reduceAdd, Nat.reduceSub, Nat.reduceMul, Nat.reduceLT, Nat.reduceLeDiff, reduceCtorEq, Int.reduceToNat, Int.reduceLT, Int.reduceLE, Int.reduceAdd, Int.reduceSub, Int.reduceMul, Int.reduceNeg, Int.reduceEq, Nat.reduceMod, forall_eq_or_imp, forall_eq, forall_const, cond_true, cond_false, decide_true, decide_false, true_imp_iff, implies_true, Int.cast_ofNat_Int, forall_eq']
      obtain ⟨f1, f2⟩ := k_first s3 s4 hx2 ks2
      rw [h17, f1, f2]
      exact ⟨rfl, rfl, rfl⟩
    rintro ⟨q, r⟩ ⟨hk, hr⟩
    have hkc := k_cond hk hr (by omega)
    have hend : ∀ z : Nat, z = q0 → (((q1 : Int) * 4294967296 % 18446744073709551616 + (z : Int)) % 18446744073709551616 = ((q1 * 4294967296 + q0 : Nat) : Int)) ∧
        (((u2 : Int) * 4294967296 % 18446744073709551616 + ((v % 4294967296 : Nat) : Int)) % 18446744073709551616 - (z : Int) * (Y : Int) % 18446744073709551616) % 18446744073709551616 = (u3 : Int) := by
      rintro z rfl
      have : (z : Int) * (Y : Int) = ((Y * z : Nat) : Int) := by rw [Int.natCast_mul, Int.mul_comm]
      rw [this]
      omega
    unfold lb52_0
    simp only [↓EVP0, EVQ0, EVQ1, EVQ2, EVQ3, EVQ4, EVA, EVK, EVFR, ↓reduceIte, Nat.reduceEqDiff, Nat.reduceAdd, Nat.reduceSub, Nat.reduceMul, Nat.reduceLT, Nat.reduceLeDiff, reduceCtorEq, Int.reduceToNat, Int.reduceLT, Int.reduceLE, Int.reduceAdd, Int.reduceSub, Int.reduceMul, Int.reduceNeg, Int.reduceEq, Nat.reduceMod, forall_eq_or_imp, forall_eq, forall_const, cond_true, cond_false, decide_true, decide_false, true_imp_iff, implies_true, Int.cast_ofNat_Int, forall_eq']
    rw [hkc, hQ2, hR2]
    simp only
    refine ⟨fun hc => ?_, fun hc => ?_⟩
    · obtain ⟨hk2, hqp⟩ := k_step s3 s4 hx2 (by omega) hk hr (by simpa using hc)
      have hq2 := hk.le
      simp only at hq2 hqp
      have eq' : ((q : Int) - 1) % 18446744073709551616 = ((q - 1 : Nat) : Int) := by omega
      rw [eq']
      refine ⟨fun hb => ⟨⟨by omega, by omega⟩, ?_⟩, fun hb => ⟨(q - 1, r + Y / 4294967296), ⟨hk2, ?_⟩, ⟨rfl, ?_⟩, ?_⟩⟩
      · have he := k_end s3 s4 hx2 (by omega) hk2 (.inl (by simp at hb; omega))
        rw [hq0] at he
        obtain ⟨g1, g2⟩ := hend _ he
        exact ⟨g1, by rw [g2, shr_nat]⟩
      · simp at hb ⊢; omega
      · simp only; omega
      · simp only; omega
    · have he := k_end s3 s4 hx2 (by omega) hk (.inr (by simp at hc; omega))
      rw [hq0] at he
      obtain ⟨g1, g2⟩ := hend _ he
      exact ⟨⟨by omega, by omega⟩, g1, by rw [g2, shr_nat]⟩
end Go.Proofs.YtdfiicpikcdokaaDoor
