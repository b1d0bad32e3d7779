/- DERIVED: THE SHELF's CONTRACTS AT THIS DUMP, IN PLAIN WORDS (tools/lay-plain.mjs out of 'TryzShelf.lean', which tools/lay-shelf.mjs wrote): THE SAME DECLARATIONS UNDER THE SAME NAMES: 'import', 'namespace', 'open', 'def', 'theorem' AND NOTHING ELSE: no command of the shelf's: FOR A HAND-IN. Each laying: the table of numbers ('.._ren') and one theorem, a field a fact of the dump's own or the kernel's comparison; each contract: ONE APPLICATION.; Texts: what the library's functions hand back; strconv.Itoa of any int, where the table of the powers of ten is as listed; Texts: strings.Cut, strings.Split, where the world's variables are as listed; Texts: strconv.Atoi, where the world's variables are as listed; Texts in plain terms: cutting and splitting at a byte; numbers of a table; Texts of numbers, in plain terms: a number's text is read as that number. Conditions: none. -/
import Derived.Test.YtdfiicpikcdokaaGreatDoorMD
import Derived.Shelf.Strings.Builder1
import Derived.Shelf.Small.Strs
import Derived.Shelf.Strings.BuilderF
import Derived.Shelf.Strings.BuilderK
import Derived.Shelf.Utf8.RuneCount
import Derived.Shelf.Strconv.Atoi
import Derived.Shelf.Strconv.Itoa0
import Derived.Shelf.Strconv.Itoa1
import Derived.Shelf.LaysM
import Derived.Shelf.Strconv.Itoa2
import Derived.Shelf.Strconv.Itoa3
import Derived.Shelf.Strconv.AtoiErrFast
import Derived.Shelf.Strconv.ParseIntEmpty
import Derived.Shelf.Strconv.AtoiFail
import Derived.Shelf.Strconv.Clone
import Derived.Shelf.Strconv.SyntaxError
import Derived.Shelf.LaysC
import Derived.Shelf.Strconv.ToError
import Derived.Shelf.Strconv.Lower
import Derived.Shelf.Strconv.ParseUint10
import Derived.Shelf.Strconv.ParseUint10Empty
import Derived.Shelf.Strconv.ParseUint10Any
import Derived.Shelf.Strconv.ParseInt10
import Derived.Shelf.Strconv.AtoiLong
import Derived.Shelf.Strconv.AtoiInnerAll
import Derived.Shelf.Strconv.RangeError
import Derived.Shelf.Strconv.ToErrorRange
import Derived.Shelf.Strconv.AtoiAll
import Derived.Shelf.Strings.Search1
import Derived.Shelf.Strings.Search2
import Derived.Shelf.Strings.Search3
import Derived.Shelf.Strings.Cut
import Derived.Shelf.Strings.Count
import Derived.Shelf.Strings.Shaped
import Derived.Shelf.Strings.Prefix
import Derived.Shelf.Strings.Split
import Derived.Shelf.Strings.SplitShaped
import Derived.Shelf.Unicode.Decode
import Derived.Shelf.Strings.RuneCount
import Derived.Shelf.Strings.Explode
import Derived.Shelf.Bits.Mul64
import Derived.Shelf.Unicode.DecodeSlow
import Derived.Shelf.Unicode.DecodeAny
import Derived.Shelf.Strings.BuilderCap
import Derived.Test.YtdfiicpikcdokaaGreatDoorProg
import Derived.Lib.AtoiAll
namespace Go.Proofs
open Go.Shelf
def Tryz.lays169_ren : Go.Shelf.Ren := ⟨fun | 169 => 19 | n => n, fun | 70 => 50 | 9 => 9 | 0 => 0 | 72 => 53 | 37 => 51 | 127 => 85 | 3 => 3 | 5 => 5 | n => n, fun | n => n⟩
theorem Tryz.lays169 : Go.Proofs.Lays.n169 Tryz.prog Tryz.lays169_ren := {
  mixed := by kernel_rfl
  f169 := Tryz.func19.trans (congrArg some (by kernel_rfl))
  t0 := Tryz.underlying0
  a0 := Tryz.isAgg0
  z0 := Tryz.sizeOf0
  v0 := Tryz.zeroValue0
  t3 := Tryz.underlying3
  a3 := Tryz.isAgg3
  z3 := Tryz.sizeOf3
  v3 := Tryz.zeroValue3
  t9 := Tryz.underlying9
  a9 := Tryz.isAgg9
  z9 := Tryz.sizeOf9
  v9 := Tryz.zeroValue9
  t37 := Tryz.underlying51
  a37 := Tryz.isAgg51
  z37 := Tryz.sizeOf51
  v37 := Tryz.zeroValue51
  t70 := Tryz.underlying50
  a70 := Tryz.isAgg50
  z70 := Tryz.sizeOf50
  v70 := Tryz.zeroValue50
  t72 := Tryz.underlying53
  a72 := Tryz.isAgg53
  z72 := Tryz.sizeOf53
  v72 := Tryz.zeroValue53
  t127 := Tryz.underlying85
  a127 := Tryz.isAgg85
  z127 := Tryz.sizeOf85
  v127 := Tryz.zeroValue85 }
theorem Tryz.Builder_Extra_169 : Builder.Extra Tryz.prog Tryz.lays169_ren := {
  sizeBuilder := by kernel_rfl
  liesBuilder := by kernel_rfl
  t5 := Tryz.underlying5
  a5 := Tryz.isAgg5
  z5 := Tryz.sizeOf5
  v5 := Tryz.zeroValue5
  infoByte := by kernel_rfl
  cellsByte := by kernel_rfl
  sizeByte := by kernel_rfl
  neB5 := by decide }
def Tryz.lays137_ren : Go.Shelf.Ren := ⟨fun | 137 => 44 | 217 => 59 | 266 => 75 | n => n, fun | 9 => 9 | 5 => 5 | 3 => 3 | n => n, fun | n => n⟩
theorem Tryz.lays137 : Go.Proofs.Lays.n137 Tryz.prog Tryz.lays137_ren := {
  mixed := by kernel_rfl
  f137 := Tryz.func44.trans (congrArg some (by kernel_rfl))
  f217 := Tryz.func59.trans (congrArg some (by kernel_rfl))
  f266 := Tryz.func75.trans (congrArg some (by kernel_rfl))
  t3 := Tryz.underlying3
  a3 := Tryz.isAgg3
  z3 := Tryz.sizeOf3
  v3 := Tryz.zeroValue3
  t5 := Tryz.underlying5
  a5 := Tryz.isAgg5
  z5 := Tryz.sizeOf5
  v5 := Tryz.zeroValue5
  t9 := Tryz.underlying9
  a9 := Tryz.isAgg9
  z9 := Tryz.sizeOf9
  v9 := Tryz.zeroValue9 }
open Go.RowKit in
theorem Tryz.strings_IndexByte (s : ByteArray) (c : Int) (w : World) :
    Calls Tryz.prog 44 #[.string s, .int .u8 c] w fun e w' => e = .returned (.int .i64 (Lib.indexByte s.data.toList c.toNat.toUInt8)) ∧ w' = w := Any.strings_IndexByte Tryz.lays137 s c w
def Tryz.laysM171_ren : Go.Shelf.Ren := ⟨fun | 171 => 18 | 243 => 36 | 246 => 57 | 283 => 71 | 284 => 72 | 285 => 73 | 286 => 74 | 129 => 89 | 317 => 88 | 318 => 90 | 319 => 91 | 320 => 92 | 337 => 103 | 338 => 104 | n => n, fun | 3 => 3 | 9 => 9 | 2 => 2 | 4 => 4 | 171 => 124 | 0 => 0 | 53 => 86 | 37 => 51 | 5 => 5 | 173 => 127 | 212 => 136 | 51 => 137 | 20 => 20 | 213 => 138 | 46 => 129 | 232 => 160 | 233 => 161 | n => n, fun | 17 => 0 | 18 => 8 | 19 => 9 | n => n⟩
theorem Tryz.laysM171 : Go.Proofs.LaysM.n171 Tryz.prog Tryz.laysM171_ren := {
  mixed := by kernel_rfl
  f129 := Tryz.func89.trans (congrArg some (by kernel_rfl))
  f171 := Tryz.func18.trans (congrArg some (by kernel_rfl))
  f243 := Tryz.func36.trans (congrArg some (by kernel_rfl))
  f246 := Tryz.func57.trans (congrArg some (by kernel_rfl))
  f283 := Tryz.func71.trans (congrArg some (by kernel_rfl))
  f284 := Tryz.func72.trans (congrArg some (by kernel_rfl))
  f285 := Tryz.func73.trans (congrArg some (by kernel_rfl))
  f286 := Tryz.func74.trans (congrArg some (by kernel_rfl))
  f317 := Tryz.func88.trans (congrArg some (by kernel_rfl))
  f318 := Tryz.func90.trans (congrArg some (by kernel_rfl))
  f319 := Tryz.func91.trans (congrArg some (by kernel_rfl))
  f320 := Tryz.func92.trans (congrArg some (by kernel_rfl))
  f337 := Tryz.func103.trans (congrArg some (by kernel_rfl))
  f338 := Tryz.func104.trans (congrArg some (by kernel_rfl))
  t0 := Tryz.underlying0
  a0 := Tryz.isAgg0
  z0 := Tryz.sizeOf0
  v0 := Tryz.zeroValue0
  t2 := Tryz.underlying2
  a2 := Tryz.isAgg2
  z2 := Tryz.sizeOf2
  v2 := Tryz.zeroValue2
  t3 := Tryz.underlying3
  a3 := Tryz.isAgg3
  z3 := Tryz.sizeOf3
  v3 := Tryz.zeroValue3
  t4 := Tryz.underlying4
  a4 := Tryz.isAgg4
  z4 := Tryz.sizeOf4
  v4 := Tryz.zeroValue4
  t5 := Tryz.underlying5
  a5 := Tryz.isAgg5
  z5 := Tryz.sizeOf5
  v5 := Tryz.zeroValue5
  t9 := Tryz.underlying9
  a9 := Tryz.isAgg9
  z9 := Tryz.sizeOf9
  v9 := Tryz.zeroValue9
  t20 := Tryz.underlying20
  a20 := Tryz.isAgg20
  z20 := Tryz.sizeOf20
  v20 := Tryz.zeroValue20
  t37 := Tryz.underlying51
  a37 := Tryz.isAgg51
  z37 := Tryz.sizeOf51
  v37 := Tryz.zeroValue51
  t46 := Tryz.underlying129
  a46 := Tryz.isAgg129
  z46 := Tryz.sizeOf129
  v46 := Tryz.zeroValue129
  t51 := Tryz.underlying137
  a51 := Tryz.isAgg137
  z51 := Tryz.sizeOf137
  v51 := Tryz.zeroValue137
  t53 := Tryz.underlying86
  a53 := Tryz.isAgg86
  z53 := Tryz.sizeOf86
  v53 := Tryz.zeroValue86
  t171 := Tryz.underlying124
  a171 := Tryz.isAgg124
  z171 := Tryz.sizeOf124
  v171 := Tryz.zeroValue124
  t173 := Tryz.underlying127
  a173 := Tryz.isAgg127
  z173 := Tryz.sizeOf127
  v173 := Tryz.zeroValue127
  t212 := Tryz.underlying136
  a212 := Tryz.isAgg136
  z212 := Tryz.sizeOf136
  v212 := Tryz.zeroValue136
  t213 := Tryz.underlying138
  a213 := Tryz.isAgg138
  z213 := Tryz.sizeOf138
  t232 := Tryz.underlying160
  a232 := Tryz.isAgg160
  z232 := Tryz.sizeOf160
  v232 := Tryz.zeroValue160
  t233 := Tryz.underlying161
  a233 := Tryz.isAgg161
  z233 := Tryz.sizeOf161
  v233 := Tryz.zeroValue161
  g17 := by kernel_rfl
  g18 := by kernel_rfl
  g19 := by kernel_rfl
  i0 := by kernel_rfl
  i2 := by kernel_rfl
  i3 := by kernel_rfl
  i4 := by kernel_rfl
  i5 := by kernel_rfl
  i9 := by kernel_rfl
  i20 := by kernel_rfl
  i37 := by kernel_rfl
  i46 := by kernel_rfl
  i51 := by kernel_rfl
  i53 := by kernel_rfl
  i171 := by kernel_rfl
  i173 := by kernel_rfl
  i212 := by kernel_rfl
  i232 := by kernel_rfl
  i233 := by kernel_rfl
  m17 := by kernel_rfl
  m18 := by kernel_rfl
  m19 := by kernel_rfl }
open Go.RowKit Go.Sort Go.Lib in
theorem Tryz.strconv_Itoa (n : Int) (h0 : -9223372036854775808 ≤ n) (h1 : n ≤ 9223372036854775807) (w : World) (htab : Lib.TabIs Tryz.prog w "internal/strconv.uint64pow10" .u64 Lib.pow10Tab) :
    Calls Tryz.prog 18 #[.int .i64 n] w fun e w' => e = .returned (.string ⟨(Lib.itoa n).toArray⟩) ∧ ∃ k os, w' = grow (w.drewN k) os := Any.strconv_Itoa Tryz.laysM171 n h0 h1 w htab
def Tryz.lays171_ren : Go.Shelf.Ren := ⟨fun | 171 => 18 | 243 => 36 | 246 => 57 | 283 => 71 | 284 => 72 | 285 => 73 | 286 => 74 | 129 => 89 | 317 => 88 | 318 => 90 | 319 => 91 | 320 => 92 | 337 => 103 | 338 => 104 | n => n, fun | 3 => 3 | 9 => 9 | 2 => 2 | 4 => 4 | 171 => 124 | 0 => 0 | 53 => 86 | 37 => 51 | 5 => 5 | 173 => 127 | 212 => 136 | 51 => 137 | 20 => 20 | 213 => 138 | 46 => 129 | 232 => 160 | 233 => 161 | n => n, fun | 17 => 0 | 18 => 8 | 19 => 9 | n => n⟩
theorem Tryz.lays171 : Go.Proofs.Lays.n171 Tryz.prog Tryz.lays171_ren := {
  mixed := by kernel_rfl
  f129 := Tryz.func89.trans (congrArg some (by kernel_rfl))
  f171 := Tryz.func18.trans (congrArg some (by kernel_rfl))
  f243 := Tryz.func36.trans (congrArg some (by kernel_rfl))
  f246 := Tryz.func57.trans (congrArg some (by kernel_rfl))
  f283 := Tryz.func71.trans (congrArg some (by kernel_rfl))
  f284 := Tryz.func72.trans (congrArg some (by kernel_rfl))
  f285 := Tryz.func73.trans (congrArg some (by kernel_rfl))
  f286 := Tryz.func74.trans (congrArg some (by kernel_rfl))
  f317 := Tryz.func88.trans (congrArg some (by kernel_rfl))
  f318 := Tryz.func90.trans (congrArg some (by kernel_rfl))
  f319 := Tryz.func91.trans (congrArg some (by kernel_rfl))
  f320 := Tryz.func92.trans (congrArg some (by kernel_rfl))
  f337 := Tryz.func103.trans (congrArg some (by kernel_rfl))
  f338 := Tryz.func104.trans (congrArg some (by kernel_rfl))
  t0 := Tryz.underlying0
  a0 := Tryz.isAgg0
  z0 := Tryz.sizeOf0
  v0 := Tryz.zeroValue0
  t2 := Tryz.underlying2
  a2 := Tryz.isAgg2
  z2 := Tryz.sizeOf2
  v2 := Tryz.zeroValue2
  t3 := Tryz.underlying3
  a3 := Tryz.isAgg3
  z3 := Tryz.sizeOf3
  v3 := Tryz.zeroValue3
  t4 := Tryz.underlying4
  a4 := Tryz.isAgg4
  z4 := Tryz.sizeOf4
  v4 := Tryz.zeroValue4
  t5 := Tryz.underlying5
  a5 := Tryz.isAgg5
  z5 := Tryz.sizeOf5
  v5 := Tryz.zeroValue5
  t9 := Tryz.underlying9
  a9 := Tryz.isAgg9
  z9 := Tryz.sizeOf9
  v9 := Tryz.zeroValue9
  t20 := Tryz.underlying20
  a20 := Tryz.isAgg20
  z20 := Tryz.sizeOf20
  v20 := Tryz.zeroValue20
  t37 := Tryz.underlying51
  a37 := Tryz.isAgg51
  z37 := Tryz.sizeOf51
  v37 := Tryz.zeroValue51
  t46 := Tryz.underlying129
  a46 := Tryz.isAgg129
  z46 := Tryz.sizeOf129
  v46 := Tryz.zeroValue129
  t51 := Tryz.underlying137
  a51 := Tryz.isAgg137
  z51 := Tryz.sizeOf137
  v51 := Tryz.zeroValue137
  t53 := Tryz.underlying86
  a53 := Tryz.isAgg86
  z53 := Tryz.sizeOf86
  v53 := Tryz.zeroValue86
  t171 := Tryz.underlying124
  a171 := Tryz.isAgg124
  z171 := Tryz.sizeOf124
  v171 := Tryz.zeroValue124
  t173 := Tryz.underlying127
  a173 := Tryz.isAgg127
  z173 := Tryz.sizeOf127
  v173 := Tryz.zeroValue127
  t212 := Tryz.underlying136
  a212 := Tryz.isAgg136
  z212 := Tryz.sizeOf136
  v212 := Tryz.zeroValue136
  t213 := Tryz.underlying138
  a213 := Tryz.isAgg138
  z213 := Tryz.sizeOf138
  t232 := Tryz.underlying160
  a232 := Tryz.isAgg160
  z232 := Tryz.sizeOf160
  v232 := Tryz.zeroValue160
  t233 := Tryz.underlying161
  a233 := Tryz.isAgg161
  z233 := Tryz.sizeOf161
  v233 := Tryz.zeroValue161
  g17 := by kernel_rfl
  g18 := by kernel_rfl
  g19 := by kernel_rfl }
open Go.RowKit Go.Sort Go.Lib in
theorem Tryz.strconv_Itoa_small (i : Nat) (hi : i < 100) (w : World) :
    Calls Tryz.prog 18 #[.int .i64 i] w fun e w' => e = .returned (.string ⟨(Lib.decDigits i).toArray⟩) ∧ w' = w := Any.strconv_Itoa_small Tryz.lays171 i hi w
def Tryz.laysC172_ren : Go.Shelf.Ren := ⟨fun | 172 => 62 | 244 => 77 | 245 => 78 | 247 => 93 | 279 => 94 | 280 => 95 | 281 => 96 | 282 => 97 | 287 => 105 | 316 => 106 | 171 => 18 | 205 => 107 | 321 => 109 | 322 => 110 | 243 => 36 | 246 => 57 | 283 => 71 | 284 => 72 | 285 => 73 | 286 => 74 | 129 => 89 | 317 => 88 | 318 => 90 | 319 => 91 | 320 => 92 | 337 => 103 | 338 => 104 | n => n, fun | 9 => 9 | 3 => 3 | 75 => 55 | 76 => 56 | 4 => 4 | 5 => 5 | 167 => 141 | 37 => 51 | 0 => 0 | 85 => 142 | 2 => 2 | 168 => 144 | 53 => 86 | 175 => 148 | 46 => 129 | 210 => 152 | 127 => 85 | 145 => 165 | 143 => 163 | 21 => 21 | 171 => 124 | 173 => 127 | 212 => 136 | 51 => 137 | 20 => 20 | 213 => 138 | 232 => 160 | 233 => 161 | 80 => 60 | n => n, fun | 15 => 4 | 16 => 5 | 17 => 0 | 18 => 8 | 19 => 9 | n => n⟩
theorem Tryz.laysC172 : Go.Proofs.LaysC.n172 Tryz.prog Tryz.laysC172_ren := {
  mixed := by kernel_rfl
  f129 := Tryz.func89.trans (congrArg some (by kernel_rfl))
  f171 := Tryz.func18.trans (congrArg some (by kernel_rfl))
  f172 := Tryz.func62.trans (congrArg some (by kernel_rfl))
  f205 := Tryz.func107.trans (congrArg some (by kernel_rfl))
  f243 := Tryz.func36.trans (congrArg some (by kernel_rfl))
  f244 := Tryz.func77.trans (congrArg some (by kernel_rfl))
  f245 := Tryz.func78.trans (congrArg some (by kernel_rfl))
  f246 := Tryz.func57.trans (congrArg some (by kernel_rfl))
  f247 := Tryz.func93.trans (congrArg some (by kernel_rfl))
  f279 := Tryz.func94.trans (congrArg some (by kernel_rfl))
  f280 := Tryz.func95.trans (congrArg some (by kernel_rfl))
  f281 := Tryz.func96.trans (congrArg some (by kernel_rfl))
  f282 := Tryz.func97.trans (congrArg some (by kernel_rfl))
  f283 := Tryz.func71.trans (congrArg some (by kernel_rfl))
  f284 := Tryz.func72.trans (congrArg some (by kernel_rfl))
  f285 := Tryz.func73.trans (congrArg some (by kernel_rfl))
  f286 := Tryz.func74.trans (congrArg some (by kernel_rfl))
  f287 := Tryz.func105.trans (congrArg some (by kernel_rfl))
  f316 := Tryz.func106.trans (congrArg some (by kernel_rfl))
  f317 := Tryz.func88.trans (congrArg some (by kernel_rfl))
  f318 := Tryz.func90.trans (congrArg some (by kernel_rfl))
  f319 := Tryz.func91.trans (congrArg some (by kernel_rfl))
  f320 := Tryz.func92.trans (congrArg some (by kernel_rfl))
  f321 := Tryz.func109.trans (congrArg some (by kernel_rfl))
  f322 := Tryz.func110.trans (congrArg some (by kernel_rfl))
  f337 := Tryz.func103.trans (congrArg some (by kernel_rfl))
  f338 := Tryz.func104.trans (congrArg some (by kernel_rfl))
  t0 := Tryz.underlying0
  a0 := Tryz.isAgg0
  z0 := Tryz.sizeOf0
  v0 := Tryz.zeroValue0
  t2 := Tryz.underlying2
  a2 := Tryz.isAgg2
  z2 := Tryz.sizeOf2
  v2 := Tryz.zeroValue2
  t3 := Tryz.underlying3
  a3 := Tryz.isAgg3
  z3 := Tryz.sizeOf3
  v3 := Tryz.zeroValue3
  t4 := Tryz.underlying4
  a4 := Tryz.isAgg4
  z4 := Tryz.sizeOf4
  v4 := Tryz.zeroValue4
  t5 := Tryz.underlying5
  a5 := Tryz.isAgg5
  z5 := Tryz.sizeOf5
  v5 := Tryz.zeroValue5
  t9 := Tryz.underlying9
  a9 := Tryz.isAgg9
  z9 := Tryz.sizeOf9
  v9 := Tryz.zeroValue9
  t20 := Tryz.underlying20
  a20 := Tryz.isAgg20
  z20 := Tryz.sizeOf20
  v20 := Tryz.zeroValue20
  t21 := Tryz.underlying21
  a21 := Tryz.isAgg21
  z21 := Tryz.sizeOf21
  v21 := Tryz.zeroValue21
  t37 := Tryz.underlying51
  a37 := Tryz.isAgg51
  z37 := Tryz.sizeOf51
  v37 := Tryz.zeroValue51
  t46 := Tryz.underlying129
  a46 := Tryz.isAgg129
  z46 := Tryz.sizeOf129
  v46 := Tryz.zeroValue129
  t51 := Tryz.underlying137
  a51 := Tryz.isAgg137
  z51 := Tryz.sizeOf137
  v51 := Tryz.zeroValue137
  t53 := Tryz.underlying86
  a53 := Tryz.isAgg86
  z53 := Tryz.sizeOf86
  v53 := Tryz.zeroValue86
  t75 := Tryz.underlying55
  a75 := Tryz.isAgg55
  z75 := Tryz.sizeOf55
  v75 := Tryz.zeroValue55
  t76 := Tryz.underlying56
  a76 := Tryz.isAgg56
  z76 := Tryz.sizeOf56
  v76 := Tryz.zeroValue56
  t85 := Tryz.underlying142
  a85 := Tryz.isAgg142
  z85 := Tryz.sizeOf142
  v85 := Tryz.zeroValue142
  t127 := Tryz.underlying85
  a127 := Tryz.isAgg85
  z127 := Tryz.sizeOf85
  v127 := Tryz.zeroValue85
  t143 := Tryz.underlying163
  a143 := Tryz.isAgg163
  z143 := Tryz.sizeOf163
  v143 := Tryz.zeroValue163
  t145 := Tryz.underlying165
  a145 := Tryz.isAgg165
  z145 := Tryz.sizeOf165
  v145 := Tryz.zeroValue165
  t167 := Tryz.underlying141
  a167 := Tryz.isAgg141
  z167 := Tryz.sizeOf141
  v167 := Tryz.zeroValue141
  t168 := Tryz.underlying144
  a168 := Tryz.isAgg144
  z168 := Tryz.sizeOf144
  v168 := Tryz.zeroValue144
  t171 := Tryz.underlying124
  a171 := Tryz.isAgg124
  z171 := Tryz.sizeOf124
  v171 := Tryz.zeroValue124
  t173 := Tryz.underlying127
  a173 := Tryz.isAgg127
  z173 := Tryz.sizeOf127
  v173 := Tryz.zeroValue127
  t175 := Tryz.underlying148
  a175 := Tryz.isAgg148
  z175 := Tryz.sizeOf148
  v175 := Tryz.zeroValue148
  t210 := Tryz.underlying152
  a210 := Tryz.isAgg152
  z210 := Tryz.sizeOf152
  v210 := Tryz.zeroValue152
  t212 := Tryz.underlying136
  a212 := Tryz.isAgg136
  z212 := Tryz.sizeOf136
  v212 := Tryz.zeroValue136
  t213 := Tryz.underlying138
  a213 := Tryz.isAgg138
  z213 := Tryz.sizeOf138
  t232 := Tryz.underlying160
  a232 := Tryz.isAgg160
  z232 := Tryz.sizeOf160
  v232 := Tryz.zeroValue160
  t233 := Tryz.underlying161
  a233 := Tryz.isAgg161
  z233 := Tryz.sizeOf161
  v233 := Tryz.zeroValue161
  g15 := by kernel_rfl
  g16 := by kernel_rfl
  g17 := by kernel_rfl
  g18 := by kernel_rfl
  g19 := by kernel_rfl
  t80 := Tryz.underlying60
  a80 := Tryz.isAgg60
  z80 := Tryz.sizeOf60
  v80 := Tryz.zeroValue60
  i0 := by kernel_rfl
  i2 := by kernel_rfl
  i3 := by kernel_rfl
  i4 := by kernel_rfl
  i5 := by kernel_rfl
  i9 := by kernel_rfl
  i20 := by kernel_rfl
  i21 := by kernel_rfl
  i37 := by kernel_rfl
  i46 := by kernel_rfl
  i51 := by kernel_rfl
  i53 := by kernel_rfl
  i75 := by kernel_rfl
  i76 := by kernel_rfl
  i80 := by kernel_rfl
  i85 := by kernel_rfl
  i127 := by kernel_rfl
  i143 := by kernel_rfl
  i145 := by kernel_rfl
  i167 := by kernel_rfl
  i168 := by kernel_rfl
  i171 := by kernel_rfl
  i173 := by kernel_rfl
  i175 := by kernel_rfl
  i210 := by kernel_rfl
  i212 := by kernel_rfl
  i232 := by kernel_rfl
  i233 := by kernel_rfl
  m15 := by kernel_rfl
  m16 := by kernel_rfl
  m17 := by kernel_rfl
  m18 := by kernel_rfl
  m19 := by kernel_rfl
  c0 := by kernel_rfl
  c2 := by kernel_rfl
  c3 := by kernel_rfl
  c4 := by kernel_rfl
  c5 := by kernel_rfl
  c9 := by kernel_rfl
  c20 := by kernel_rfl
  c21 := by kernel_rfl
  c37 := by kernel_rfl
  c46 := by kernel_rfl
  c51 := by kernel_rfl
  c53 := by kernel_rfl
  c75 := by kernel_rfl
  c76 := by kernel_rfl
  c80 := by kernel_rfl
  c85 := by kernel_rfl
  c127 := by kernel_rfl
  c143 := by kernel_rfl
  c145 := by kernel_rfl
  c167 := by kernel_rfl
  c168 := by kernel_rfl
  c171 := by kernel_rfl
  c173 := by kernel_rfl
  c175 := by kernel_rfl
  c210 := by kernel_rfl
  c212 := by kernel_rfl
  c213 := by kernel_rfl
  c232 := by kernel_rfl
  c233 := by kernel_rfl }
open Go.RowKit in
theorem Tryz.strconv_Atoi_ok (s : ByteArray) (hmax : s.size ≤ 9223372036854775806) (v : Int) (h : Lib.atoiAll s.data.toList = .ok v) (w : World) :
    Calls Tryz.prog 62 #[.string s] w fun e w' => e = .returned (.tuple #[.int .i64 v, .nilIface]) ∧ (w' = w ∨ ∃ t, w' = Lib.bytesWorld w 5 t) := Any.strconv_Atoi_ok Tryz.laysC172 s hmax v h w
open Go.RowKit in
theorem Tryz.strconv_Atoi_syntax (s : ByteArray) (hlim : s.size ≤ 281474976710656) (h : Lib.atoiAll s.data.toList = Lib.atoiAll []) (ev : Value) (w : World) (hv : w.cell? ⟨4, 0, none⟩ = some ev) (hev : ev = .nilIface ∨ ∃ te pe, ev = .iface te pe) :
    Calls Tryz.prog 62 #[.string s] w fun e w' => ∃ N, e = .returned (.tuple #[.int .i64 (0), .iface 144 (.pointer (some ⟨N, 0, none⟩))]) ∧ w.heap.size ≤ N ∧ w'.heap[N]? = some (.cells #[.string ⟨#[65, 116, 111, 105]⟩, .string s, ev] 152 (0, 0)) ∧ Below w.heap.size w w' := Any.strconv_Atoi_syntax Tryz.laysC172 s hlim h ev w hv hev
open Go.RowKit in
theorem Tryz.strconv_Atoi_range (s : ByteArray) (hlim : s.size ≤ 281474976710656) (h : Lib.atoiAll s.data.toList = .range) (ev : Value) (w : World) (hv : w.cell? ⟨5, 0, none⟩ = some ev) (hev : ev = .nilIface ∨ ∃ te pe, ev = .iface te pe) :
    Calls Tryz.prog 62 #[.string s] w fun e w' => ∃ N, e = .returned (.tuple #[.int .i64 (Lib.atoiSat s.data.toList), .iface 144 (.pointer (some ⟨N, 0, none⟩))]) ∧ w.heap.size ≤ N ∧ w'.heap[N]? = some (.cells #[.string ⟨#[65, 116, 111, 105]⟩, .string s, ev] 152 (0, 0)) ∧ Below w.heap.size w w' := Any.strconv_Atoi_range Tryz.laysC172 s hlim h ev w hv hev
def Tryz.lays145_ren : Go.Shelf.Ren := ⟨fun | 145 => 61 | 220 => 76 | 219 => 82 | 217 => 59 | 225 => 99 | 224 => 100 | 267 => 101 | 266 => 75 | 314 => 108 | n => n, fun | 9 => 9 | 4 => 4 | 59 => 114 | 3 => 3 | 5 => 5 | 46 => 129 | 146 => 158 | 51 => 137 | n => n, fun | 1 => 1 | n => n⟩
theorem Tryz.lays145 : Go.Proofs.Lays.n145 Tryz.prog Tryz.lays145_ren := {
  mixed := by kernel_rfl
  f145 := Tryz.func61.trans (congrArg some (by kernel_rfl))
  f217 := Tryz.func59.trans (congrArg some (by kernel_rfl))
  f219 := Tryz.func82.trans (congrArg some (by kernel_rfl))
  f220 := Tryz.func76.trans (congrArg some (by kernel_rfl))
  f224 := Tryz.func100.trans (congrArg some (by kernel_rfl))
  f225 := Tryz.func99.trans (congrArg some (by kernel_rfl))
  f266 := Tryz.func75.trans (congrArg some (by kernel_rfl))
  f267 := Tryz.func101.trans (congrArg some (by kernel_rfl))
  f314 := Tryz.func108.trans (congrArg some (by kernel_rfl))
  t3 := Tryz.underlying3
  a3 := Tryz.isAgg3
  z3 := Tryz.sizeOf3
  v3 := Tryz.zeroValue3
  t4 := Tryz.underlying4
  a4 := Tryz.isAgg4
  z4 := Tryz.sizeOf4
  v4 := Tryz.zeroValue4
  t5 := Tryz.underlying5
  a5 := Tryz.isAgg5
  z5 := Tryz.sizeOf5
  v5 := Tryz.zeroValue5
  t9 := Tryz.underlying9
  a9 := Tryz.isAgg9
  z9 := Tryz.sizeOf9
  v9 := Tryz.zeroValue9
  t46 := Tryz.underlying129
  a46 := Tryz.isAgg129
  z46 := Tryz.sizeOf129
  v46 := Tryz.zeroValue129
  t51 := Tryz.underlying137
  a51 := Tryz.isAgg137
  z51 := Tryz.sizeOf137
  v51 := Tryz.zeroValue137
  t59 := Tryz.underlying114
  a59 := Tryz.isAgg114
  z59 := Tryz.sizeOf114
  v59 := Tryz.zeroValue114
  t146 := Tryz.underlying158
  a146 := Tryz.isAgg158
  z146 := Tryz.sizeOf158
  v146 := Tryz.zeroValue158
  g1 := by kernel_rfl }
open Go.RowKit Go.Lib in
theorem Tryz.strings_Cut (s sep : ByteArray) (m : Int) (w : World) (hs : s.size < 4294967281) (hm : w.cell? ⟨1, 0, none⟩ = some (.int .i64 m)) :
    Calls Tryz.prog 61 #[.string s, .string sep] w fun e w' => e = .returned (.tuple #[.string ⟨(Lib.cut s.data.toList sep.data.toList).1.toArray⟩, .string ⟨(Lib.cut s.data.toList sep.data.toList).2.1.toArray⟩, .bool (Lib.cut s.data.toList sep.data.toList).2.2]) ∧ ∃ n, w' = w.drewN n := Any.strings_Cut Tryz.lays145 s sep m w hs hm
def Tryz.lays146_ren : Go.Shelf.Ren := ⟨fun | 146 => 26 | 221 => 48 | 268 => 63 | 138 => 64 | 143 => 65 | 195 => 79 | 197 => 80 | 218 => 81 | 219 => 82 | 260 => 98 | 217 => 59 | 225 => 99 | 224 => 100 | 267 => 101 | 266 => 75 | 314 => 108 | n => n, fun | 9 => 9 | 31 => 70 | 3 => 3 | 4 => 4 | 0 => 0 | 105 => 131 | 21 => 21 | 5 => 5 | 46 => 129 | 119 => 154 | 139 => 157 | 138 => 156 | 146 => 158 | 51 => 137 | n => n, fun | 1 => 1 | 3 => 6 | 4 => 7 | n => n⟩
theorem Tryz.lays146 : Go.Proofs.Lays.n146 Tryz.prog Tryz.lays146_ren := {
  mixed := by kernel_rfl
  f138 := Tryz.func64.trans (congrArg some (by kernel_rfl))
  f143 := Tryz.func65.trans (congrArg some (by kernel_rfl))
  f146 := Tryz.func26.trans (congrArg some (by kernel_rfl))
  f195 := Tryz.func79.trans (congrArg some (by kernel_rfl))
  f197 := Tryz.func80.trans (congrArg some (by kernel_rfl))
  f217 := Tryz.func59.trans (congrArg some (by kernel_rfl))
  f218 := Tryz.func81.trans (congrArg some (by kernel_rfl))
  f219 := Tryz.func82.trans (congrArg some (by kernel_rfl))
  f221 := Tryz.func48.trans (congrArg some (by kernel_rfl))
  f224 := Tryz.func100.trans (congrArg some (by kernel_rfl))
  f225 := Tryz.func99.trans (congrArg some (by kernel_rfl))
  f260 := Tryz.func98.trans (congrArg some (by kernel_rfl))
  f266 := Tryz.func75.trans (congrArg some (by kernel_rfl))
  f267 := Tryz.func101.trans (congrArg some (by kernel_rfl))
  f268 := Tryz.func63.trans (congrArg some (by kernel_rfl))
  f314 := Tryz.func108.trans (congrArg some (by kernel_rfl))
  t0 := Tryz.underlying0
  a0 := Tryz.isAgg0
  z0 := Tryz.sizeOf0
  v0 := Tryz.zeroValue0
  t3 := Tryz.underlying3
  a3 := Tryz.isAgg3
  z3 := Tryz.sizeOf3
  v3 := Tryz.zeroValue3
  t4 := Tryz.underlying4
  a4 := Tryz.isAgg4
  z4 := Tryz.sizeOf4
  v4 := Tryz.zeroValue4
  t5 := Tryz.underlying5
  a5 := Tryz.isAgg5
  z5 := Tryz.sizeOf5
  v5 := Tryz.zeroValue5
  t9 := Tryz.underlying9
  a9 := Tryz.isAgg9
  z9 := Tryz.sizeOf9
  v9 := Tryz.zeroValue9
  t21 := Tryz.underlying21
  a21 := Tryz.isAgg21
  z21 := Tryz.sizeOf21
  v21 := Tryz.zeroValue21
  t31 := Tryz.underlying70
  a31 := Tryz.isAgg70
  z31 := Tryz.sizeOf70
  v31 := Tryz.zeroValue70
  t46 := Tryz.underlying129
  a46 := Tryz.isAgg129
  z46 := Tryz.sizeOf129
  v46 := Tryz.zeroValue129
  t51 := Tryz.underlying137
  a51 := Tryz.isAgg137
  z51 := Tryz.sizeOf137
  v51 := Tryz.zeroValue137
  t105 := Tryz.underlying131
  a105 := Tryz.isAgg131
  z105 := Tryz.sizeOf131
  v105 := Tryz.zeroValue131
  t119 := Tryz.underlying154
  a119 := Tryz.isAgg154
  z119 := Tryz.sizeOf154
  t138 := Tryz.underlying156
  a138 := Tryz.isAgg156
  z138 := Tryz.sizeOf156
  v138 := Tryz.zeroValue156
  t139 := Tryz.underlying157
  a139 := Tryz.isAgg157
  z139 := Tryz.sizeOf157
  v139 := Tryz.zeroValue157
  t146 := Tryz.underlying158
  a146 := Tryz.isAgg158
  z146 := Tryz.sizeOf158
  v146 := Tryz.zeroValue158
  g1 := by kernel_rfl
  g3 := by kernel_rfl
  g4 := by kernel_rfl }
open Go.RowKit Go.Lib in
theorem Tryz.strings_Split (s sep : ByteArray) (m : Int) (w : World) (hs : s.size < 4294967281) (hm : w.cell? ⟨1, 0, none⟩ = some (.int .i64 m)) (h1 : 1 ≤ sep.size) :
    Calls Tryz.prog 26 #[.string s, .string sep] w fun e w' =>
      e = .returned (.slice (some ⟨w.heap.size, 0, none⟩) (Lib.countB s sep + 1) (Lib.countB s sep + 1)) ∧ w' = w.alloc (.cells ((Lib.splitB sep 0 (Lib.countB s sep) s).map Value.string).toArray 9) := Any.strings_Split Tryz.lays146 (by kernel_rfl) s sep m w hs hm h1
def Tryz.lays240_ren : Go.Shelf.Ren := ⟨fun | 240 => 35 | 276 => 56 | n => n, fun | 0 => 0 | 4 => 4 | 9 => 9 | 20 => 20 | 37 => 51 | 70 => 50 | 72 => 53 | 164 => 108 | n => n, fun | n => n⟩
theorem Tryz.lays240 : Go.Proofs.Lays.n240 Tryz.prog Tryz.lays240_ren := {
  mixed := by kernel_rfl
  f240 := Tryz.func35.trans (congrArg some (by kernel_rfl))
  f276 := Tryz.func56.trans (congrArg some (by kernel_rfl))
  t0 := Tryz.underlying0
  a0 := Tryz.isAgg0
  z0 := Tryz.sizeOf0
  v0 := Tryz.zeroValue0
  t4 := Tryz.underlying4
  a4 := Tryz.isAgg4
  z4 := Tryz.sizeOf4
  v4 := Tryz.zeroValue4
  t9 := Tryz.underlying9
  a9 := Tryz.isAgg9
  z9 := Tryz.sizeOf9
  v9 := Tryz.zeroValue9
  t20 := Tryz.underlying20
  a20 := Tryz.isAgg20
  z20 := Tryz.sizeOf20
  v20 := Tryz.zeroValue20
  t70 := Tryz.underlying50
  a70 := Tryz.isAgg50
  z70 := Tryz.sizeOf50
  v70 := Tryz.zeroValue50
  t72 := Tryz.underlying53
  a72 := Tryz.isAgg53
  z72 := Tryz.sizeOf53
  v72 := Tryz.zeroValue53
  t164 := Tryz.underlying108
  a164 := Tryz.isAgg108
  z164 := Tryz.sizeOf108
  v164 := Tryz.zeroValue108 }
theorem Tryz.Builder_X72_240 : Builder.X72 Tryz.prog Tryz.lays240_ren := {
  sizeBuilder := by kernel_rfl
  liesBuilder := by kernel_rfl }
end Go.Proofs
namespace Go.Proofs.YtdfiicpikcdokaaGreatDoor
set_option linter.unusedSimpArgs false
set_option linter.unusedVariables false
open Go.RowKit
set_option maxRecDepth 20000

theorem sc_inv {R : RO} {a v : Value} (h : Ro R (.sc a) v) : v = a := by cases h; rfl
theorem ev_itoa (i : Nat) (hi : i < 100) : Ev Tryz.prog 18 [.sc (.int .i64 (i : Int))] (.sc (.string ⟨(Lib.decDigits i).toArray⟩)) := by
  rintro R w ⟨vs⟩ hR hgl hs ha
  match vs, hs with
  | [v], _ =>
    have h0 := sc_inv (ha 0 _ rfl)
    have h1 : v = .int .i64 (i : Int) := h0
    subst h1
    refine (Tryz.strconv_Itoa_small i hi w).mono ?_
    rintro e w' ⟨rfl, rfl⟩
    exact ⟨_, R, rfl, fun _ _ h => h, fun _ _ => rfl, hR, Below.refl _ _, .sc _ rfl⟩
def txsF (l : List ByteArray) (i : Nat) : List LV := [.sc (.string (l.getD i ⟨#[]⟩))]
end Go.Proofs.YtdfiicpikcdokaaGreatDoor
namespace Go.Proofs.YtdfiicpikcdokaaGreatDoor
set_option linter.unusedSimpArgs false
set_option linter.unusedVariables false
open Go.RowKit
set_option maxRecDepth 20000

theorem ev_itoaA (n : Int) (hn : In64 n) : Ev Tryz.prog 18 [.sc (.int .i64 n)] (.sc (.string ⟨(Lib.itoa n).toArray⟩)) := by
  rintro R w ⟨vs⟩ hR hgl hs ha
  match vs, hs with
  | [v], _ =>
    have h0 : v = .int .i64 n := sc_inv (ha 0 _ rfl)
    subst h0
    refine (Tryz.strconv_Itoa n hn.1 hn.2 w (hgl w hR).1).mono ?_
    rintro e w' ⟨rfl, k, os, rfl⟩
    have hB : Below w.heap.size w (Go.Sort.grow (w.drewN k) os) := by
      refine ⟨rfl, rfl, rfl, ?_, ?_⟩
      · simp [Go.Sort.grow, World.drewN]
      · intro b hb
        simp only [Go.Sort.grow, World.drewN]
        rw [Array.getElem?_append_left (by simpa using hb)]
    refine ⟨_, R, rfl, fun _ _ h => h, fun _ _ => rfl, fun b q hb => ?_, hB, .sc _ rfl⟩
    have h1 := hR b q hb
    have : b < w.heap.size := by
      rcases Nat.lt_or_ge b w.heap.size with h | h
      · exact h
      · rw [Array.getElem?_eq_none h] at h1; simp at h1
    rw [hB.block b this]; exact h1
end Go.Proofs.YtdfiicpikcdokaaGreatDoor
namespace Go.Proofs.YtdfiicpikcdokaaGreatDoor
set_option linter.unusedSimpArgs false
set_option linter.unusedVariables false
open Go.RowKit
set_option maxRecDepth 20000

theorem below_drewN (w : World) (n : Nat) : Below w.heap.size w (w.drewN n) := ⟨rfl, rfl, rfl, Nat.le_refl _, fun _ _ => rfl⟩
theorem ro_lt {R : RO} {w : World} (hR : ∀ b o, R b = some o → w.heap[b]? = some o) {b : Nat} {o : Obj} (h : R b = some o) : b < w.heap.size := by
  have h1 := hR b o h
  rcases Nat.lt_or_ge b w.heap.size with h | h
  · exact h
  · rw [Array.getElem?_eq_none h] at h1; simp at h1
theorem ev_cutS (s sep : ByteArray) (hs : s.size < 4294967281) : Ev Tryz.prog 61 [.sc (.string s), .sc (.string sep)]
    (.tup [.sc (.string ⟨(Lib.cut s.data.toList sep.data.toList).1.toArray⟩), .sc (.string ⟨(Lib.cut s.data.toList sep.data.toList).2.1.toArray⟩), .sc (.bool (Lib.cut s.data.toList sep.data.toList).2.2)]) := by
  rintro R w ⟨vs⟩ hR hgl hs2 ha
  match vs, hs2 with
  | [v, u], _ =>
    have h0 : v = .string s := sc_inv (ha 0 _ rfl)
    have h1 : u = .string sep := sc_inv (ha 1 _ rfl)
    subst h0; subst h1
    first
      | (obtain ⟨m, hm⟩ := (hgl w hR).2.1; refine (Tryz.strings_Cut s sep m w hs hm).mono ?_)
      | (obtain ⟨m, hm⟩ := (hgl w hR).2; refine (Tryz.strings_Cut s sep m w hs hm).mono ?_)
    rintro e w' ⟨rfl, n, rfl⟩
    refine ⟨_, R, rfl, fun _ _ h => h, fun _ _ => rfl, fun b q hb => hR b q hb, below_drewN _ _, .tup _ _ rfl fun i c hi => ?_⟩
    match i, hi with
    | 0, hi => simp at hi; subst hi; exact .sc _ rfl
    | 1, hi => simp at hi; subst hi; exact .sc _ rfl
    | 2, hi => simp at hi; subst hi; exact .sc _ rfl
    | i + 3, hi => simp at hi
theorem ev_splitS (s sep : ByteArray) (hs : s.size < 4294967281) (h1 : 1 ≤ sep.size) : Ev Tryz.prog 26 [.sc (.string s), .sc (.string sep)]
    (.rsl 1 (Lib.countB s sep + 1) (txsF (Lib.splitB sep 0 (Lib.countB s sep) s))) := by
  rintro R w ⟨vs⟩ hR hgl hs2 ha
  match vs, hs2 with
  | [v, u], _ =>
    have h0 : v = .string s := sc_inv (ha 0 _ rfl)
    have h2 : u = .string sep := sc_inv (ha 1 _ rfl)
    subst h0; subst h2
    first
      | (obtain ⟨m, hm⟩ := (hgl w hR).2.1; refine (Tryz.strings_Split s sep m w hs hm h1).mono ?_)
      | (obtain ⟨m, hm⟩ := (hgl w hR).2; refine (Tryz.strings_Split s sep m w hs hm h1).mono ?_)
    rintro e w' ⟨rfl, rfl⟩
    have hlen := Lib.splitB_all sep h1 0 (Lib.countB s sep) s rfl
    have hcnt := Lib.countB_le sep h1 s.size s (Nat.le_refl _)
    generalize Lib.splitB sep 0 (Lib.countB s sep) s = xs at *
    generalize Lib.countB s sep = k at *
    have hB : Below w.heap.size w (w.alloc (.cells (xs.map Value.string).toArray 9)) := by
      refine ⟨rfl, rfl, rfl, (by show w.heap.size ≤ (w.heap.push _).size; rw [Array.size_push]; omega), fun b hb => ?_⟩
      show (w.heap.push _)[b]? = _
      rw [Array.getElem?_push_lt hb, Array.getElem?_eq_getElem hb]
    have hnew : (w.alloc (.cells (xs.map Value.string).toArray 9)).heap[w.heap.size]? = some (.cells (xs.map Value.string).toArray 9 (0, 0)) := by
      show (w.heap.push _)[w.heap.size]? = _
      rw [Array.getElem?_push_size]
    refine ⟨_, fun b => if b = w.heap.size then some (.cells (xs.map Value.string).toArray 9 (0, 0)) else R b, rfl, fun b o hb => ?_, fun b hb => if_neg (by omega), fun b o hb => ?_, hB, ?_⟩
    · show (if b = w.heap.size then _ else R b) = some o
      rw [if_neg (by have := ro_lt hR hb; omega)]; exact hb
    · by_cases e : b = w.heap.size
      · subst e
        have hb2 := (if_pos rfl).symm.trans hb
        rw [hnew, hb2]
      · have hb := (if_neg e).symm.trans hb
        rw [hB.block b (ro_lt hR hb)]; exact hR b o hb
    · refine .rsl _ _ _ _ _ w.heap.size 0 (fun i _ => .string (xs.getD i ⟨#[]⟩)) (Nat.le_refl _) (by unfold maxLen; omega) (fun _ => rfl) (fun _ _ => rfl) (fun i j hi hj => ?_) (fun i j c hi hc => ?_) (fun _ _ _ _ => rfl)
      · obtain rfl : j = 0 := by omega
        unfold roCell
        simp only [if_true]
        rw [Nat.zero_add, Nat.mul_one, Nat.add_zero]
        simp only [List.getElem?_toArray, List.getElem?_map]
        rw [List.getElem?_eq_getElem (by omega), List.getD_eq_getElem?_getD, List.getElem?_eq_getElem (by omega)]; rfl
      · match j, hc with
        | 0, hc => simp [txsF] at hc; subst hc; exact .sc _ rfl
        | j + 1, hc => simp [txsF] at hc
end Go.Proofs.YtdfiicpikcdokaaGreatDoor
namespace Go.Proofs.YtdfiicpikcdokaaGreatDoor
set_option linter.unusedSimpArgs false
set_option linter.unusedVariables false
open Go.RowKit
set_option maxRecDepth 20000

def atoiN (l : List UInt8) : Int := match Lib.atoiAll l with
  | .ok v => v
  | .range => Lib.atoiSat l
  | _ => 0
def atoiB (l : List UInt8) : Bool := match Lib.atoiAll l with
  | .ok _ => true
  | _ => false
theorem ev_atoi (s : ByteArray) (hs : s.size ≤ 281474976710656) : Ev Tryz.prog 62 [.sc (.string s)] (.tup [.sc (.int .i64 (atoiN s.data.toList)), .ifc (atoiB s.data.toList)]) := by
  rintro R w ⟨vs⟩ hR hgl hs2 ha
  match vs, hs2 with
  | [v], _ =>
    have h0 : v = .string s := sc_inv (ha 0 _ rfl)
    subst h0
    obtain ⟨_, _, ⟨e1, hv1, he1⟩, ⟨e2, hv2, he2⟩⟩ := hgl w hR
    unfold atoiN atoiB
    cases h : Lib.atoiAll s.data.toList with
    | ok v =>
      refine (Tryz.strconv_Atoi_ok s (by omega) v h w).mono ?_
      rintro e w' ⟨rfl, hw⟩
      have hB : Below w.heap.size w w' := by
        rcases hw with rfl | ⟨t, rfl⟩
        · exact Below.refl _ _
        · exact Lib.bytesWorld_below _ _ _
      refine ⟨_, R, rfl, fun _ _ h => h, fun _ _ => rfl, fun b q hb => by rw [hB.block b (ro_lt hR hb)]; exact hR b q hb, hB, .tup _ _ rfl fun i c hi => ?_⟩
      match i, hi with
      | 0, hi => simp at hi; subst hi; exact .sc _ rfl
      | 1, hi => simp at hi; subst hi; exact .ifc _ _ rfl
      | i + 2, hi => simp at hi
    | range =>
      refine (Tryz.strconv_Atoi_range s hs h e2 w hv2 he2).mono ?_
      rintro e w' ⟨N, rfl, _, _, hB⟩
      refine ⟨_, R, rfl, fun _ _ h => h, fun _ _ => rfl, fun b q hb => by rw [hB.block b (ro_lt hR hb)]; exact hR b q hb, hB, .tup _ _ rfl fun i c hi => ?_⟩
      match i, hi with
      | 0, hi => simp at hi; subst hi; exact .sc _ rfl
      | 1, hi => simp at hi; subst hi; exact .ifc _ _ rfl
      | i + 2, hi => simp at hi
    | _ =>
      refine (Tryz.strconv_Atoi_syntax s hs h e1 w hv1 he1).mono ?_
      rintro e w' ⟨N, rfl, _, _, hB⟩
      refine ⟨_, R, rfl, fun _ _ h => h, fun _ _ => rfl, fun b q hb => by rw [hB.block b (ro_lt hR hb)]; exact hR b q hb, hB, .tup _ _ rfl fun i c hi => ?_⟩
      match i, hi with
      | 0, hi => simp at hi; subst hi; exact .sc _ rfl
      | 1, hi => simp at hi; subst hi; exact .ifc _ _ rfl
      | i + 2, hi => simp at hi
end Go.Proofs.YtdfiicpikcdokaaGreatDoor
namespace Go.Proofs.YtdfiicpikcdokaaGreatDoor
set_option linter.unusedSimpArgs false
set_option linter.unusedVariables false
open Go.RowKit
set_option maxRecDepth 20000

abbrev By := List UInt8
def strB (l : By) : ByteArray := ⟨l.toArray⟩
theorem strB_data (l : By) : (strB l).data.toList = l := by simp [strB]
theorem strB_size (l : By) : (strB l).size = l.length := by simp [strB, ByteArray.size]
theorem strB_inj {a b : By} (h : strB a = strB b) : a = b := by rw [← strB_data a, h, strB_data]
theorem strB_of (s : ByteArray) : strB s.data.toList = s := by cases s; simp [strB]
def cutE (c : UInt8) : By → By × By × Bool
  | [] => ([], [], false)
  | b :: r => if b = c then ([], r, true) else (b :: (cutE c r).1, (cutE c r).2.1, (cutE c r).2.2)
def splE (c : UInt8) : By → List By
  | [] => [[]]
  | b :: r => if b = c then [] :: splE c r else match splE c r with
    | [] => [[b]]
    | w :: ws => (b :: w) :: ws
theorem splE_ne (c : UInt8) : ∀ l : By, splE c l ≠ []
  | [] => by simp [splE]
  | b :: r => by
    unfold splE
    split
    · simp
    · split <;> simp
theorem idx_hit {c : UInt8} {r : By} : Lib.index (c :: r) [c] = 0 := by
  rw [Lib.index_one]; unfold Lib.indexByte; simp
theorem idx_miss {c b : UInt8} {r : By} (h : b ≠ c) : Lib.index (b :: r) [c] = if Lib.index r [c] = -1 then -1 else Lib.index r [c] + 1 := by
  rw [Lib.index_one, Lib.index_one]
  show (if (b == c) = true then (0 : Int) else if (Lib.indexByte r c == -1) = true then -1 else Lib.indexByte r c + 1) = _
  simp [h]
theorem idx_cut (c : UInt8) : ∀ l : By, ((cutE c l).2.2 = false ∧ Lib.index l [c] = -1 ∧ (cutE c l).1 = l ∧ (cutE c l).2.1 = []) ∨ ∃ i : Nat, (cutE c l).2.2 = true ∧ Lib.index l [c] = i ∧ i < l.length ∧ (cutE c l).1 = l.take i ∧ (cutE c l).2.1 = l.drop (i + 1)
  | [] => .inl ⟨rfl, rfl, rfl, rfl⟩
  | b :: r => by
    by_cases h : b = c
    · subst h
      refine .inr ⟨0, ?_, idx_hit, by simp, ?_, ?_⟩ <;> unfold cutE <;> rw [if_pos rfl] <;> rfl
    · have e : cutE c (b :: r) = (b :: (cutE c r).1, (cutE c r).2.1, (cutE c r).2.2) := by
        show (if b = c then _ else _) = _
        rw [if_neg h]
      rw [e, idx_miss h]
      rcases idx_cut c r with ⟨h1, h2, h3, h4⟩ | ⟨i, h1, h2, h3, h4, h5⟩
      · refine .inl ⟨h1, by rw [if_pos h2], by simp only; rw [h3], h4⟩
      · refine .inr ⟨i + 1, h1, by rw [if_neg (by omega), h2]; omega, by simp; omega, by simp only; rw [h4]; rfl, by simp only; rw [h5]; rfl⟩
theorem lib_cut (c : UInt8) (l : By) : Lib.cut l [c] = cutE c l := by
  unfold Lib.cut
  rcases idx_cut c l with ⟨h1, h2, h3, h4⟩ | ⟨i, h1, h2, h3, h4, h5⟩
  · rw [if_neg (by omega)]
    conv => rhs; rw [← Prod.eta (cutE c l), ← Prod.eta (cutE c l).2]
    rw [h1, h3, h4]
  · rw [if_pos (by omega), h2]
    conv => rhs; rw [← Prod.eta (cutE c l), ← Prod.eta (cutE c l).2]
    rw [h1, h4, h5]; rfl
theorem spl_cut (c : UInt8) : ∀ l : By, splE c l = if (cutE c l).2.2 = true then (cutE c l).1 :: splE c (cutE c l).2.1 else [l]
  | [] => rfl
  | b :: r => by
    by_cases h : b = c
    · subst h
      show (if b = b then _ else _) = _
      rw [if_pos rfl]
      have e : cutE b (b :: r) = ([], r, true) := by
        show (if b = b then _ else _) = _
        rw [if_pos rfl]
      rw [e]; rfl
    · have e : cutE c (b :: r) = (b :: (cutE c r).1, (cutE c r).2.1, (cutE c r).2.2) := by
        show (if b = c then _ else _) = _
        rw [if_neg h]
      have e2 : splE c (b :: r) = match splE c r with
        | [] => [[b]]
        | w :: ws => (b :: w) :: ws := by
        show (if b = c then _ else _) = _
        rw [if_neg h]
      rw [e, e2, spl_cut c r]
      by_cases q : (cutE c r).2.2 = true
      · rw [if_pos q, if_pos q]
      · rw [if_neg q, if_neg q]
theorem ev_cut (l : By) (c : UInt8) (hs : l.length < 4294967281) : Ev Tryz.prog 61 [.sc (.string (strB l)), .sc (.string (strB [c]))]
    (.tup [.sc (.string (strB (cutE c l).1)), .sc (.string (strB (cutE c l).2.1)), .sc (.bool (cutE c l).2.2)]) := by
  have h := ev_cutS (strB l) (strB [c]) (by rw [strB_size]; exact hs)
  rw [strB_data, strB_data, lib_cut] at h
  exact h
end Go.Proofs.YtdfiicpikcdokaaGreatDoor
namespace Go.Proofs.YtdfiicpikcdokaaGreatDoor
set_option linter.unusedSimpArgs false
set_option linter.unusedVariables false
open Go.RowKit
set_option maxRecDepth 20000

theorem dig_nat {m : Nat} (h : m < 10) : (UInt8.ofNat (48 + m)).toNat = 48 + m := by
  rw [UInt8.toNat_ofNat']; omega
theorem ddS {n : Nat} (h : n < 10) : Lib.decDigits n = [UInt8.ofNat (48 + n % 10)] := by
  rw [Lib.decDigits, dif_pos h, Nat.mod_eq_of_lt h]
theorem ddB {n : Nat} (h : ¬ n < 10) : Lib.decDigits n = Lib.decDigits (n / 10) ++ [UInt8.ofNat (48 + n % 10)] := by
  rw [Lib.decDigits, dif_neg h]
theorem dd_chars : ∀ n : Nat, ∀ c, c ∈ Lib.decDigits n → 48 ≤ c.toNat ∧ c.toNat ≤ 57 := by
  intro n
  induction n using Nat.strongRecOn with
  | ind n ih =>
    intro c hc
    have hd : ∀ x, x = UInt8.ofNat (48 + n % 10) → 48 ≤ x.toNat ∧ x.toNat ≤ 57 := by
      rintro x rfl
      rw [dig_nat (Nat.mod_lt _ (by omega))]
      have := Nat.mod_lt n (show 0 < 10 by omega)
      omega
    by_cases h : n < 10
    · rw [ddS h] at hc
      exact hd c (by simpa using hc)
    · rw [ddB h] at hc
      rcases List.mem_append.1 hc with hc | hc
      · exact ih (n / 10) (by omega) c hc
      · exact hd c (by simpa using hc)
theorem dd_ne (n : Nat) : Lib.decDigits n ≠ [] := by
  by_cases h : n < 10
  · rw [ddS h]; simp
  · rw [ddB h]; simp
theorem pu_dd : ∀ u : Nat, u < 18446744073709551616 → ∀ rest : By, Lib.parseUint10 0 (Lib.decDigits u ++ rest) = Lib.parseUint10 u rest := by
  intro u
  induction u using Nat.strongRecOn with
  | ind u ih =>
    intro hu rest
    have hm := Nat.mod_lt u (show 0 < 10 by omega)
    have hd := dig_nat hm
    have step : ∀ acc : Nat, acc * 10 + u % 10 = u → acc < 1844674407370955162 → Lib.parseUint10 acc (UInt8.ofNat (48 + u % 10) :: rest) = Lib.parseUint10 u rest := by
      intro acc h1 h2
      show (if 48 ≤ (UInt8.ofNat (48 + u % 10)).toNat ∧ (UInt8.ofNat (48 + u % 10)).toNat ≤ 57 then _ else _) = _
      rw [hd, if_pos (by omega), if_neg (by omega), if_neg (by omega), show acc * 10 + (48 + u % 10 - 48) = u by omega]
    by_cases h : u < 10
    · rw [ddS h]
      exact step 0 (by omega) (by omega)
    · rw [ddB h, List.append_assoc, ih (u / 10) (by omega) (by omega)]
      exact step (u / 10) (by omega) (by omega)
theorem mag_dd {u : Nat} (h : u < 18446744073709551616) : Lib.parseMag (Lib.decDigits u) = .ok u := by
  unfold Lib.parseMag
  rw [if_neg (dd_ne u)]
  have := pu_dd u h []
  rw [List.append_nil] at this
  rw [this]; rfl
theorem itN {n : Int} (h : n < 0) : Lib.itoa n = 45 :: Lib.decDigits n.natAbs := by unfold Lib.itoa; rw [if_pos h]
theorem itP {n : Int} (h : 0 ≤ n) : Lib.itoa n = Lib.decDigits n.toNat := by unfold Lib.itoa; rw [if_neg (by omega)]
theorem atoi_it {n : Int} (h : In64 n) : Lib.atoiAll (Lib.itoa n) = .ok n := by
  unfold In64 at h
  by_cases e : n < 0
  · rw [itN e]
    simp only [Lib.atoiAll]
    rw [if_pos (show (45 : UInt8).toNat = 43 ∨ (45 : UInt8).toNat = 45 from .inr rfl), mag_dd (by omega)]
    show (if ¬ (45 : UInt8).toNat = 45 ∧ 9223372036854775808 ≤ n.natAbs then _ else if (45 : UInt8).toNat = 45 ∧ 9223372036854775808 < n.natAbs then _ else _) = _
    rw [if_neg (by simp), if_neg (by omega), if_pos (by rfl)]
    congr 1; omega
  · rw [itP (by omega)]
    have hc := dd_chars n.toNat
    have hm := mag_dd (u := n.toNat) (by omega)
    have hne := dd_ne n.toNat
    generalize Lib.decDigits n.toNat = l at *
    match l, hne with
    | c :: r, _ =>
      have hc0 := hc c (by simp)
      simp only [Lib.atoiAll]
      rw [if_neg (show ¬ (c.toNat = 43 ∨ c.toNat = 45) by omega), hm]
      show (if ¬ c.toNat = 45 ∧ 9223372036854775808 ≤ n.toNat then _ else if c.toNat = 45 ∧ 9223372036854775808 < n.toNat then _ else _) = _
      rw [if_neg (by omega), if_neg (by omega), if_neg (by omega)]
      congr 1; omega
theorem it_slash {n : Int} : ∀ c, c ∈ Lib.itoa n → c ≠ 47 := by
  intro c hc
  by_cases e : n < 0
  · rw [itN e] at hc
    rcases List.mem_cons.1 hc with rfl | hc
    · decide
    · rintro rfl
      have := (dd_chars _ _ hc).1
      simp at this
  · rw [itP (by omega)] at hc
    rintro rfl
    have := (dd_chars _ _ hc).1
    simp at this
theorem cutS {c : UInt8} {r : By} : ∀ {w : By}, (∀ x, x ∈ w → x ≠ c) → cutE c (w ++ c :: r) = (w, r, true)
  | [], _ => by
    show (if c = c then _ else _) = _
    rw [if_pos rfl]
  | b :: w, h => by
    show (if b = c then _ else _) = _
    rw [if_neg (h b (by simp))]
    have ih : cutE c (w.append (c :: r)) = (w, r, true) := cutS fun x hx => h x (by simp [hx])
    rw [ih]
theorem cutN {c : UInt8} : ∀ {w : By}, (∀ x, x ∈ w → x ≠ c) → cutE c w = (w, [], false)
  | [], _ => rfl
  | b :: w, h => by
    show (if b = c then _ else _) = _
    rw [if_neg (h b (by simp)), cutN fun x hx => h x (by simp [hx])]
theorem cutJ (c : UInt8) : ∀ l : By, (cutE c l).2.2 = true → l = (cutE c l).1 ++ c :: (cutE c l).2.1
  | [], h => by simp [cutE] at h
  | b :: r, h => by
    unfold cutE at h ⊢
    by_cases e : b = c
    · rw [if_pos e, e]; rfl
    · rw [if_neg e] at h ⊢
      have := cutJ c r h
      simp only [List.cons_append]
      rw [← this]
theorem cutL (c : UInt8) : ∀ l : By, (cutE c l).1.length ≤ l.length ∧ (cutE c l).2.1.length ≤ l.length
  | [] => ⟨Nat.le_refl _, Nat.le_refl _⟩
  | b :: r => by
    obtain ⟨h1, h2⟩ := cutL c r
    unfold cutE
    split
    · exact ⟨Nat.zero_le _, by simp⟩
    · exact ⟨by simp; omega, by simp; omega⟩
end Go.Proofs.YtdfiicpikcdokaaGreatDoor
