/- DERIVED: THE SHELF's CONTRACTS AT THIS DUMP, IN PLAIN WORDS (tools/lay-plain.mjs out of 'TrydShelf.lean', which tools/lay-shelf.mjs wrote): THE SAME DECLARATIONS UNDER THE SAME NAMES: 'import', 'namespace', 'open', 'def', 'theorem' AND NOTHING ELSE: no command of the shelf's: FOR A HAND-IN. Each laying: the table of numbers ('.._ren') and one theorem, a field a fact of the dump's own or the kernel's comparison; each contract: ONE APPLICATION.; strings.Builder: what its methods do to a variable and its bytes; strings.Builder: WriteString, WriteByte; strings.Builder: String; Texts: what the library's functions hand back; strconv.Itoa of any int, where the table of the powers of ten is as listed; Chapter 19: the text of a table; The example of chapter 19; Chapter 19: a frame in phase 1 never rises; The arguments of the statements about plans, opened; An order among the arguments, opened; What a world must hold, from what a row lists and from the shape of the variables. Conditions: none. -/
import Derived.Test.YtcdepkflghcjpaaDoorMG
import Derived.Shelf.Strings.Builder1
import Derived.Shelf.Strings.Builder2
import Derived.Shelf.Strings.OnBuilder
import Derived.Shelf.Strings.BuilderF
import Derived.Shelf.Strings.BuilderK
import Derived.Shelf.Utf8.RuneCount
import Derived.Shelf.Strings.Builder2Cap
import Derived.Shelf.Strconv.Atoi
import Derived.Shelf.Strconv.Itoa0
import Derived.Shelf.Strconv.Itoa1
import Derived.Shelf.LaysM
import Derived.Shelf.Strconv.Itoa2
import Derived.Shelf.Strconv.Itoa3
import Derived.Shelf.Strconv.AtoiErrFast
import Derived.Shelf.Strconv.ParseIntEmpty
import Derived.Shelf.Strconv.AtoiFail
import Derived.Shelf.Strconv.Clone
import Derived.Shelf.Strconv.SyntaxError
import Derived.Shelf.LaysC
import Derived.Shelf.Strconv.ToError
import Derived.Shelf.Strconv.Lower
import Derived.Shelf.Strconv.ParseUint10
import Derived.Shelf.Strconv.ParseUint10Empty
import Derived.Shelf.Strconv.ParseUint10Any
import Derived.Shelf.Strconv.ParseInt10
import Derived.Shelf.Strconv.AtoiLong
import Derived.Shelf.Strconv.AtoiInnerAll
import Derived.Shelf.Strconv.RangeError
import Derived.Shelf.Strconv.ToErrorRange
import Derived.Shelf.Strconv.AtoiAll
import Derived.Shelf.Strings.Search1
import Derived.Shelf.Strings.Search2
import Derived.Shelf.Strings.Search3
import Derived.Shelf.Strings.Cut
import Derived.Shelf.Strings.Count
import Derived.Shelf.Strings.Shaped
import Derived.Shelf.Strings.Split
import Derived.Shelf.Strings.SplitShaped
import Derived.Shelf.Unicode.Decode
import Derived.Shelf.Strings.RuneCount
import Derived.Shelf.Strings.Explode
import Derived.Shelf.Unicode.DecodeSlow
import Derived.Shelf.Unicode.DecodeAny
import Derived.Shelf.Strings.BuilderCap
import Derived.Shelf.Slices.Equal
import Derived.Ground.Names2Prog
import Derived.Shelf.Slices.SearchI
import Derived.Shelf.Slices.Empties2
import Derived.Test.YtcdepkflghcjpaaDoorProg
import Derived.Lib.UnsafeStr
import Derived.Lib.Builder
import Derived.Shelf.RegionOpenPlain
import Derived.Lib.ItoaLen
import Derived.Lib.LaidTab
import Derived.Stop.LaidErr
import Derived.KernelRfl
import Derived.Shelf.Vars
import Derived.FnData
namespace Go.Proofs
open Go.Shelf
def Tryd.lays169_ren : Go.Shelf.Ren := ⟨fun | 169 => 65 | n => n, fun | 70 => 110 | 9 => 9 | 0 => 0 | 72 => 113 | 37 => 111 | 127 => 144 | 3 => 3 | 5 => 5 | n => n, fun | n => n⟩
theorem Tryd.lays169 : Go.Proofs.Lays.n169 Tryd.prog Tryd.lays169_ren := {
  mixed := by kernel_rfl
  f169 := Tryd.func65.trans (congrArg some (by kernel_rfl))
  t0 := Tryd.underlying0
  a0 := Tryd.isAgg0
  z0 := Tryd.sizeOf0
  v0 := Tryd.zeroValue0
  t3 := Tryd.underlying3
  a3 := Tryd.isAgg3
  z3 := Tryd.sizeOf3
  v3 := Tryd.zeroValue3
  t9 := Tryd.underlying9
  a9 := Tryd.isAgg9
  z9 := Tryd.sizeOf9
  v9 := Tryd.zeroValue9
  t37 := Tryd.underlying111
  a37 := Tryd.isAgg111
  z37 := Tryd.sizeOf111
  v37 := Tryd.zeroValue111
  t70 := Tryd.underlying110
  a70 := Tryd.isAgg110
  z70 := Tryd.sizeOf110
  v70 := Tryd.zeroValue110
  t72 := Tryd.underlying113
  a72 := Tryd.isAgg113
  z72 := Tryd.sizeOf113
  v72 := Tryd.zeroValue113
  t127 := Tryd.underlying144
  a127 := Tryd.isAgg144
  z127 := Tryd.sizeOf144
  v127 := Tryd.zeroValue144 }
theorem Tryd.Builder_Extra_169 : Builder.Extra Tryd.prog Tryd.lays169_ren := {
  sizeBuilder := by kernel_rfl
  liesBuilder := by kernel_rfl
  t5 := Tryd.underlying5
  a5 := Tryd.isAgg5
  z5 := Tryd.sizeOf5
  v5 := Tryd.zeroValue5
  infoByte := by kernel_rfl
  cellsByte := by kernel_rfl
  sizeByte := by kernel_rfl
  neB5 := by decide }
def Tryd.lays156_ren : Go.Shelf.Ren := ⟨fun | 156 => 62 | 165 => 88 | 166 => 61 | 169 => 65 | 240 => 87 | 241 => 99 | 276 => 98 | 277 => 104 | n => n, fun | 31 => 114 | 9 => 9 | 3 => 3 | 4 => 4 | 0 => 0 | 20 => 20 | 72 => 113 | 76 => 117 | 70 => 110 | 37 => 111 | 75 => 116 | 127 => 144 | 164 => 151 | 5 => 5 | 80 => 123 | n => n, fun | n => n⟩
theorem Tryd.lays156 : Go.Proofs.Lays.n156 Tryd.prog Tryd.lays156_ren := {
  mixed := by kernel_rfl
  f156 := Tryd.func62.trans (congrArg some (by kernel_rfl))
  f165 := Tryd.func88.trans (congrArg some (by kernel_rfl))
  f166 := Tryd.func61.trans (congrArg some (by kernel_rfl))
  f169 := Tryd.func65.trans (congrArg some (by kernel_rfl))
  f240 := Tryd.func87.trans (congrArg some (by kernel_rfl))
  f241 := Tryd.func99.trans (congrArg some (by kernel_rfl))
  f276 := Tryd.func98.trans (congrArg some (by kernel_rfl))
  f277 := Tryd.func104.trans (congrArg some (by kernel_rfl))
  t0 := Tryd.underlying0
  a0 := Tryd.isAgg0
  z0 := Tryd.sizeOf0
  v0 := Tryd.zeroValue0
  t3 := Tryd.underlying3
  a3 := Tryd.isAgg3
  z3 := Tryd.sizeOf3
  v3 := Tryd.zeroValue3
  t4 := Tryd.underlying4
  a4 := Tryd.isAgg4
  z4 := Tryd.sizeOf4
  v4 := Tryd.zeroValue4
  t9 := Tryd.underlying9
  a9 := Tryd.isAgg9
  z9 := Tryd.sizeOf9
  v9 := Tryd.zeroValue9
  t20 := Tryd.underlying20
  a20 := Tryd.isAgg20
  z20 := Tryd.sizeOf20
  v20 := Tryd.zeroValue20
  t31 := Tryd.underlying114
  a31 := Tryd.isAgg114
  z31 := Tryd.sizeOf114
  v31 := Tryd.zeroValue114
  t37 := Tryd.underlying111
  a37 := Tryd.isAgg111
  z37 := Tryd.sizeOf111
  v37 := Tryd.zeroValue111
  t70 := Tryd.underlying110
  a70 := Tryd.isAgg110
  z70 := Tryd.sizeOf110
  v70 := Tryd.zeroValue110
  t72 := Tryd.underlying113
  a72 := Tryd.isAgg113
  z72 := Tryd.sizeOf113
  v72 := Tryd.zeroValue113
  t75 := Tryd.underlying116
  a75 := Tryd.isAgg116
  z75 := Tryd.sizeOf116
  v75 := Tryd.zeroValue116
  t76 := Tryd.underlying117
  a76 := Tryd.isAgg117
  z76 := Tryd.sizeOf117
  v76 := Tryd.zeroValue117
  t127 := Tryd.underlying144
  a127 := Tryd.isAgg144
  z127 := Tryd.sizeOf144
  v127 := Tryd.zeroValue144
  t164 := Tryd.underlying151
  a164 := Tryd.isAgg151
  z164 := Tryd.sizeOf151
  v164 := Tryd.zeroValue151 }
theorem Tryd.Builder_Extra_156 : Builder.Extra Tryd.prog Tryd.lays156_ren := {
  sizeBuilder := by kernel_rfl
  liesBuilder := by kernel_rfl
  t5 := Tryd.underlying5
  a5 := Tryd.isAgg5
  z5 := Tryd.sizeOf5
  v5 := Tryd.zeroValue5
  infoByte := by kernel_rfl
  cellsByte := by kernel_rfl
  sizeByte := by kernel_rfl
  neB5 := by decide }
open Go.RowKit in
theorem Tryd.strings_Join_none (a : Option Addr) (c : Nat) (sep : ByteArray) (w : World) :
    Calls Tryd.prog 62 #[.slice a 0 c, .string sep] w fun e w' => e = .returned (.string ⟨#[]⟩) ∧ w' = w := Any.strings_Join_none Tryd.lays156 Tryd.Builder_Extra_156 a c sep w
open Go.RowKit in
theorem Tryd.strings_Join (bk o c : Nat) (xs : List ByteArray) (sep : ByteArray) (w : World) (hcells : ∀ (j : Nat) x, xs[j]? = some x → w.cell? ⟨bk, o + j, none⟩ = some (.string x)) (hbk : bk < w.heap.size) (hN : xs.length ≤ 140737488355328) (hcap : xs.length ≤ c) (hlen : (Lib.join (xs.map (·.data.toList)) sep.data.toList).length ≤ 140737488355328) :
    Calls Tryd.prog 62 #[.slice (some ⟨bk, o, none⟩) xs.length c, .string sep] w fun e w' => e = .returned (.string ⟨(Lib.join (xs.map (·.data.toList)) sep.data.toList).toArray⟩) ∧ Below w.heap.size w w' := Any.strings_Join Tryd.lays156 Tryd.Builder_Extra_156 bk o c xs sep w hcells hbk hN hcap hlen
def Tryd.laysM171_ren : Go.Shelf.Ren := ⟨fun | 171 => 64 | 243 => 89 | 246 => 100 | 283 => 105 | 284 => 106 | 285 => 107 | 286 => 108 | 129 => 119 | 317 => 118 | 318 => 120 | 319 => 121 | 320 => 122 | 337 => 133 | 338 => 134 | n => n, fun | 3 => 3 | 9 => 9 | 2 => 2 | 4 => 4 | 171 => 157 | 0 => 0 | 53 => 158 | 37 => 111 | 5 => 5 | 173 => 161 | 212 => 169 | 51 => 170 | 20 => 20 | 213 => 171 | 46 => 165 | 232 => 191 | 233 => 192 | n => n, fun | 17 => 1 | 18 => 4 | 19 => 5 | n => n⟩
theorem Tryd.laysM171 : Go.Proofs.LaysM.n171 Tryd.prog Tryd.laysM171_ren := {
  mixed := by kernel_rfl
  f129 := Tryd.func119.trans (congrArg some (by kernel_rfl))
  f171 := Tryd.func64.trans (congrArg some (by kernel_rfl))
  f243 := Tryd.func89.trans (congrArg some (by kernel_rfl))
  f246 := Tryd.func100.trans (congrArg some (by kernel_rfl))
  f283 := Tryd.func105.trans (congrArg some (by kernel_rfl))
  f284 := Tryd.func106.trans (congrArg some (by kernel_rfl))
  f285 := Tryd.func107.trans (congrArg some (by kernel_rfl))
  f286 := Tryd.func108.trans (congrArg some (by kernel_rfl))
  f317 := Tryd.func118.trans (congrArg some (by kernel_rfl))
  f318 := Tryd.func120.trans (congrArg some (by kernel_rfl))
  f319 := Tryd.func121.trans (congrArg some (by kernel_rfl))
  f320 := Tryd.func122.trans (congrArg some (by kernel_rfl))
  f337 := Tryd.func133.trans (congrArg some (by kernel_rfl))
  f338 := Tryd.func134.trans (congrArg some (by kernel_rfl))
  t0 := Tryd.underlying0
  a0 := Tryd.isAgg0
  z0 := Tryd.sizeOf0
  v0 := Tryd.zeroValue0
  t2 := Tryd.underlying2
  a2 := Tryd.isAgg2
  z2 := Tryd.sizeOf2
  v2 := Tryd.zeroValue2
  t3 := Tryd.underlying3
  a3 := Tryd.isAgg3
  z3 := Tryd.sizeOf3
  v3 := Tryd.zeroValue3
  t4 := Tryd.underlying4
  a4 := Tryd.isAgg4
  z4 := Tryd.sizeOf4
  v4 := Tryd.zeroValue4
  t5 := Tryd.underlying5
  a5 := Tryd.isAgg5
  z5 := Tryd.sizeOf5
  v5 := Tryd.zeroValue5
  t9 := Tryd.underlying9
  a9 := Tryd.isAgg9
  z9 := Tryd.sizeOf9
  v9 := Tryd.zeroValue9
  t20 := Tryd.underlying20
  a20 := Tryd.isAgg20
  z20 := Tryd.sizeOf20
  v20 := Tryd.zeroValue20
  t37 := Tryd.underlying111
  a37 := Tryd.isAgg111
  z37 := Tryd.sizeOf111
  v37 := Tryd.zeroValue111
  t46 := Tryd.underlying165
  a46 := Tryd.isAgg165
  z46 := Tryd.sizeOf165
  v46 := Tryd.zeroValue165
  t51 := Tryd.underlying170
  a51 := Tryd.isAgg170
  z51 := Tryd.sizeOf170
  v51 := Tryd.zeroValue170
  t53 := Tryd.underlying158
  a53 := Tryd.isAgg158
  z53 := Tryd.sizeOf158
  v53 := Tryd.zeroValue158
  t171 := Tryd.underlying157
  a171 := Tryd.isAgg157
  z171 := Tryd.sizeOf157
  v171 := Tryd.zeroValue157
  t173 := Tryd.underlying161
  a173 := Tryd.isAgg161
  z173 := Tryd.sizeOf161
  v173 := Tryd.zeroValue161
  t212 := Tryd.underlying169
  a212 := Tryd.isAgg169
  z212 := Tryd.sizeOf169
  v212 := Tryd.zeroValue169
  t213 := Tryd.underlying171
  a213 := Tryd.isAgg171
  z213 := Tryd.sizeOf171
  t232 := Tryd.underlying191
  a232 := Tryd.isAgg191
  z232 := Tryd.sizeOf191
  v232 := Tryd.zeroValue191
  t233 := Tryd.underlying192
  a233 := Tryd.isAgg192
  z233 := Tryd.sizeOf192
  v233 := Tryd.zeroValue192
  g17 := by kernel_rfl
  g18 := by kernel_rfl
  g19 := by kernel_rfl
  i0 := by kernel_rfl
  i2 := by kernel_rfl
  i3 := by kernel_rfl
  i4 := by kernel_rfl
  i5 := by kernel_rfl
  i9 := by kernel_rfl
  i20 := by kernel_rfl
  i37 := by kernel_rfl
  i46 := by kernel_rfl
  i51 := by kernel_rfl
  i53 := by kernel_rfl
  i171 := by kernel_rfl
  i173 := by kernel_rfl
  i212 := by kernel_rfl
  i232 := by kernel_rfl
  i233 := by kernel_rfl
  m17 := by kernel_rfl
  m18 := by kernel_rfl
  m19 := by kernel_rfl }
open Go.RowKit Go.Sort Go.Lib in
theorem Tryd.strconv_Itoa (n : Int) (h0 : -9223372036854775808 ≤ n) (h1 : n ≤ 9223372036854775807) (w : World) (htab : Lib.TabIs Tryd.prog w "internal/strconv.uint64pow10" .u64 Lib.pow10Tab) :
    Calls Tryd.prog 64 #[.int .i64 n] w fun e w' => e = .returned (.string ⟨(Lib.itoa n).toArray⟩) ∧ ∃ k os, w' = grow (w.drewN k) os := Any.strconv_Itoa Tryd.laysM171 n h0 h1 w htab
def Tryd.laysC172_ren : Go.Shelf.Ren := ⟨fun | 172 => 103 | 244 => 116 | 245 => 117 | 247 => 128 | 279 => 129 | 280 => 130 | 281 => 131 | 282 => 132 | 287 => 136 | 316 => 137 | 171 => 64 | 205 => 138 | 321 => 139 | 322 => 140 | 243 => 89 | 246 => 100 | 283 => 105 | 284 => 106 | 285 => 107 | 286 => 108 | 129 => 119 | 317 => 118 | 318 => 120 | 319 => 121 | 320 => 122 | 337 => 133 | 338 => 134 | n => n, fun | 9 => 9 | 3 => 3 | 75 => 116 | 76 => 117 | 4 => 4 | 5 => 5 | 167 => 178 | 37 => 111 | 0 => 0 | 85 => 179 | 2 => 2 | 168 => 181 | 53 => 158 | 175 => 185 | 46 => 165 | 210 => 189 | 127 => 144 | 145 => 200 | 143 => 198 | 21 => 21 | 171 => 157 | 173 => 161 | 212 => 169 | 51 => 170 | 20 => 20 | 213 => 171 | 232 => 191 | 233 => 192 | 80 => 123 | n => n, fun | 15 => 2 | 16 => 3 | 17 => 1 | 18 => 4 | 19 => 5 | n => n⟩
theorem Tryd.laysC172 : Go.Proofs.LaysC.n172 Tryd.prog Tryd.laysC172_ren := {
  mixed := by kernel_rfl
  f129 := Tryd.func119.trans (congrArg some (by kernel_rfl))
  f171 := Tryd.func64.trans (congrArg some (by kernel_rfl))
  f172 := Tryd.func103.trans (congrArg some (by kernel_rfl))
  f205 := Tryd.func138.trans (congrArg some (by kernel_rfl))
  f243 := Tryd.func89.trans (congrArg some (by kernel_rfl))
  f244 := Tryd.func116.trans (congrArg some (by kernel_rfl))
  f245 := Tryd.func117.trans (congrArg some (by kernel_rfl))
  f246 := Tryd.func100.trans (congrArg some (by kernel_rfl))
  f247 := Tryd.func128.trans (congrArg some (by kernel_rfl))
  f279 := Tryd.func129.trans (congrArg some (by kernel_rfl))
  f280 := Tryd.func130.trans (congrArg some (by kernel_rfl))
  f281 := Tryd.func131.trans (congrArg some (by kernel_rfl))
  f282 := Tryd.func132.trans (congrArg some (by kernel_rfl))
  f283 := Tryd.func105.trans (congrArg some (by kernel_rfl))
  f284 := Tryd.func106.trans (congrArg some (by kernel_rfl))
  f285 := Tryd.func107.trans (congrArg some (by kernel_rfl))
  f286 := Tryd.func108.trans (congrArg some (by kernel_rfl))
  f287 := Tryd.func136.trans (congrArg some (by kernel_rfl))
  f316 := Tryd.func137.trans (congrArg some (by kernel_rfl))
  f317 := Tryd.func118.trans (congrArg some (by kernel_rfl))
  f318 := Tryd.func120.trans (congrArg some (by kernel_rfl))
  f319 := Tryd.func121.trans (congrArg some (by kernel_rfl))
  f320 := Tryd.func122.trans (congrArg some (by kernel_rfl))
  f321 := Tryd.func139.trans (congrArg some (by kernel_rfl))
  f322 := Tryd.func140.trans (congrArg some (by kernel_rfl))
  f337 := Tryd.func133.trans (congrArg some (by kernel_rfl))
  f338 := Tryd.func134.trans (congrArg some (by kernel_rfl))
  t0 := Tryd.underlying0
  a0 := Tryd.isAgg0
  z0 := Tryd.sizeOf0
  v0 := Tryd.zeroValue0
  t2 := Tryd.underlying2
  a2 := Tryd.isAgg2
  z2 := Tryd.sizeOf2
  v2 := Tryd.zeroValue2
  t3 := Tryd.underlying3
  a3 := Tryd.isAgg3
  z3 := Tryd.sizeOf3
  v3 := Tryd.zeroValue3
  t4 := Tryd.underlying4
  a4 := Tryd.isAgg4
  z4 := Tryd.sizeOf4
  v4 := Tryd.zeroValue4
  t5 := Tryd.underlying5
  a5 := Tryd.isAgg5
  z5 := Tryd.sizeOf5
  v5 := Tryd.zeroValue5
  t9 := Tryd.underlying9
  a9 := Tryd.isAgg9
  z9 := Tryd.sizeOf9
  v9 := Tryd.zeroValue9
  t20 := Tryd.underlying20
  a20 := Tryd.isAgg20
  z20 := Tryd.sizeOf20
  v20 := Tryd.zeroValue20
  t21 := Tryd.underlying21
  a21 := Tryd.isAgg21
  z21 := Tryd.sizeOf21
  v21 := Tryd.zeroValue21
  t37 := Tryd.underlying111
  a37 := Tryd.isAgg111
  z37 := Tryd.sizeOf111
  v37 := Tryd.zeroValue111
  t46 := Tryd.underlying165
  a46 := Tryd.isAgg165
  z46 := Tryd.sizeOf165
  v46 := Tryd.zeroValue165
  t51 := Tryd.underlying170
  a51 := Tryd.isAgg170
  z51 := Tryd.sizeOf170
  v51 := Tryd.zeroValue170
  t53 := Tryd.underlying158
  a53 := Tryd.isAgg158
  z53 := Tryd.sizeOf158
  v53 := Tryd.zeroValue158
  t75 := Tryd.underlying116
  a75 := Tryd.isAgg116
  z75 := Tryd.sizeOf116
  v75 := Tryd.zeroValue116
  t76 := Tryd.underlying117
  a76 := Tryd.isAgg117
  z76 := Tryd.sizeOf117
  v76 := Tryd.zeroValue117
  t85 := Tryd.underlying179
  a85 := Tryd.isAgg179
  z85 := Tryd.sizeOf179
  v85 := Tryd.zeroValue179
  t127 := Tryd.underlying144
  a127 := Tryd.isAgg144
  z127 := Tryd.sizeOf144
  v127 := Tryd.zeroValue144
  t143 := Tryd.underlying198
  a143 := Tryd.isAgg198
  z143 := Tryd.sizeOf198
  v143 := Tryd.zeroValue198
  t145 := Tryd.underlying200
  a145 := Tryd.isAgg200
  z145 := Tryd.sizeOf200
  v145 := Tryd.zeroValue200
  t167 := Tryd.underlying178
  a167 := Tryd.isAgg178
  z167 := Tryd.sizeOf178
  v167 := Tryd.zeroValue178
  t168 := Tryd.underlying181
  a168 := Tryd.isAgg181
  z168 := Tryd.sizeOf181
  v168 := Tryd.zeroValue181
  t171 := Tryd.underlying157
  a171 := Tryd.isAgg157
  z171 := Tryd.sizeOf157
  v171 := Tryd.zeroValue157
  t173 := Tryd.underlying161
  a173 := Tryd.isAgg161
  z173 := Tryd.sizeOf161
  v173 := Tryd.zeroValue161
  t175 := Tryd.underlying185
  a175 := Tryd.isAgg185
  z175 := Tryd.sizeOf185
  v175 := Tryd.zeroValue185
  t210 := Tryd.underlying189
  a210 := Tryd.isAgg189
  z210 := Tryd.sizeOf189
  v210 := Tryd.zeroValue189
  t212 := Tryd.underlying169
  a212 := Tryd.isAgg169
  z212 := Tryd.sizeOf169
  v212 := Tryd.zeroValue169
  t213 := Tryd.underlying171
  a213 := Tryd.isAgg171
  z213 := Tryd.sizeOf171
  t232 := Tryd.underlying191
  a232 := Tryd.isAgg191
  z232 := Tryd.sizeOf191
  v232 := Tryd.zeroValue191
  t233 := Tryd.underlying192
  a233 := Tryd.isAgg192
  z233 := Tryd.sizeOf192
  v233 := Tryd.zeroValue192
  g15 := by kernel_rfl
  g16 := by kernel_rfl
  g17 := by kernel_rfl
  g18 := by kernel_rfl
  g19 := by kernel_rfl
  t80 := Tryd.underlying123
  a80 := Tryd.isAgg123
  z80 := Tryd.sizeOf123
  v80 := Tryd.zeroValue123
  i0 := by kernel_rfl
  i2 := by kernel_rfl
  i3 := by kernel_rfl
  i4 := by kernel_rfl
  i5 := by kernel_rfl
  i9 := by kernel_rfl
  i20 := by kernel_rfl
  i21 := by kernel_rfl
  i37 := by kernel_rfl
  i46 := by kernel_rfl
  i51 := by kernel_rfl
  i53 := by kernel_rfl
  i75 := by kernel_rfl
  i76 := by kernel_rfl
  i80 := by kernel_rfl
  i85 := by kernel_rfl
  i127 := by kernel_rfl
  i143 := by kernel_rfl
  i145 := by kernel_rfl
  i167 := by kernel_rfl
  i168 := by kernel_rfl
  i171 := by kernel_rfl
  i173 := by kernel_rfl
  i175 := by kernel_rfl
  i210 := by kernel_rfl
  i212 := by kernel_rfl
  i232 := by kernel_rfl
  i233 := by kernel_rfl
  m15 := by kernel_rfl
  m16 := by kernel_rfl
  m17 := by kernel_rfl
  m18 := by kernel_rfl
  m19 := by kernel_rfl
  c0 := by kernel_rfl
  c2 := by kernel_rfl
  c3 := by kernel_rfl
  c4 := by kernel_rfl
  c5 := by kernel_rfl
  c9 := by kernel_rfl
  c20 := by kernel_rfl
  c21 := by kernel_rfl
  c37 := by kernel_rfl
  c46 := by kernel_rfl
  c51 := by kernel_rfl
  c53 := by kernel_rfl
  c75 := by kernel_rfl
  c76 := by kernel_rfl
  c80 := by kernel_rfl
  c85 := by kernel_rfl
  c127 := by kernel_rfl
  c143 := by kernel_rfl
  c145 := by kernel_rfl
  c167 := by kernel_rfl
  c168 := by kernel_rfl
  c171 := by kernel_rfl
  c173 := by kernel_rfl
  c175 := by kernel_rfl
  c210 := by kernel_rfl
  c212 := by kernel_rfl
  c213 := by kernel_rfl
  c232 := by kernel_rfl
  c233 := by kernel_rfl }
open Go.RowKit in
theorem Tryd.strconv_Atoi_ok (s : ByteArray) (hmax : s.size ≤ 9223372036854775806) (v : Int) (h : Lib.atoiAll s.data.toList = .ok v) (w : World) :
    Calls Tryd.prog 103 #[.string s] w fun e w' => e = .returned (.tuple #[.int .i64 v, .nilIface]) ∧ (w' = w ∨ ∃ t, w' = Lib.bytesWorld w 5 t) := Any.strconv_Atoi_ok Tryd.laysC172 s hmax v h w
open Go.RowKit in
theorem Tryd.strconv_Atoi_syntax (s : ByteArray) (hlim : s.size ≤ 281474976710656) (h : Lib.atoiAll s.data.toList = Lib.atoiAll []) (ev : Value) (w : World) (hv : w.cell? ⟨2, 0, none⟩ = some ev) (hev : ev = .nilIface ∨ ∃ te pe, ev = .iface te pe) :
    Calls Tryd.prog 103 #[.string s] w fun e w' => ∃ N, e = .returned (.tuple #[.int .i64 (0), .iface 181 (.pointer (some ⟨N, 0, none⟩))]) ∧ w.heap.size ≤ N ∧ w'.heap[N]? = some (.cells #[.string ⟨#[65, 116, 111, 105]⟩, .string s, ev] 189 (0, 0)) ∧ Below w.heap.size w w' := Any.strconv_Atoi_syntax Tryd.laysC172 s hlim h ev w hv hev
open Go.RowKit in
theorem Tryd.strconv_Atoi_range (s : ByteArray) (hlim : s.size ≤ 281474976710656) (h : Lib.atoiAll s.data.toList = .range) (ev : Value) (w : World) (hv : w.cell? ⟨3, 0, none⟩ = some ev) (hev : ev = .nilIface ∨ ∃ te pe, ev = .iface te pe) :
    Calls Tryd.prog 103 #[.string s] w fun e w' => ∃ N, e = .returned (.tuple #[.int .i64 (Lib.atoiSat s.data.toList), .iface 181 (.pointer (some ⟨N, 0, none⟩))]) ∧ w.heap.size ≤ N ∧ w'.heap[N]? = some (.cells #[.string ⟨#[65, 116, 111, 105]⟩, .string s, ev] 189 (0, 0)) ∧ Below w.heap.size w w' := Any.strconv_Atoi_range Tryd.laysC172 s hlim h ev w hv hev
def Tryd.lays145_ren : Go.Shelf.Ren := ⟨fun | 145 => 66 | 220 => 90 | 219 => 101 | 217 => 109 | 225 => 110 | 224 => 111 | 267 => 112 | 266 => 123 | 314 => 124 | n => n, fun | 9 => 9 | 4 => 4 | 59 => 124 | 3 => 3 | 5 => 5 | 46 => 165 | 146 => 173 | 51 => 170 | n => n, fun | 1 => 0 | n => n⟩
theorem Tryd.lays145 : Go.Proofs.Lays.n145 Tryd.prog Tryd.lays145_ren := {
  mixed := by kernel_rfl
  f145 := Tryd.func66.trans (congrArg some (by kernel_rfl))
  f217 := Tryd.func109.trans (congrArg some (by kernel_rfl))
  f219 := Tryd.func101.trans (congrArg some (by kernel_rfl))
  f220 := Tryd.func90.trans (congrArg some (by kernel_rfl))
  f224 := Tryd.func111.trans (congrArg some (by kernel_rfl))
  f225 := Tryd.func110.trans (congrArg some (by kernel_rfl))
  f266 := Tryd.func123.trans (congrArg some (by kernel_rfl))
  f267 := Tryd.func112.trans (congrArg some (by kernel_rfl))
  f314 := Tryd.func124.trans (congrArg some (by kernel_rfl))
  t3 := Tryd.underlying3
  a3 := Tryd.isAgg3
  z3 := Tryd.sizeOf3
  v3 := Tryd.zeroValue3
  t4 := Tryd.underlying4
  a4 := Tryd.isAgg4
  z4 := Tryd.sizeOf4
  v4 := Tryd.zeroValue4
  t5 := Tryd.underlying5
  a5 := Tryd.isAgg5
  z5 := Tryd.sizeOf5
  v5 := Tryd.zeroValue5
  t9 := Tryd.underlying9
  a9 := Tryd.isAgg9
  z9 := Tryd.sizeOf9
  v9 := Tryd.zeroValue9
  t46 := Tryd.underlying165
  a46 := Tryd.isAgg165
  z46 := Tryd.sizeOf165
  v46 := Tryd.zeroValue165
  t51 := Tryd.underlying170
  a51 := Tryd.isAgg170
  z51 := Tryd.sizeOf170
  v51 := Tryd.zeroValue170
  t59 := Tryd.underlying124
  a59 := Tryd.isAgg124
  z59 := Tryd.sizeOf124
  v59 := Tryd.zeroValue124
  t146 := Tryd.underlying173
  a146 := Tryd.isAgg173
  z146 := Tryd.sizeOf173
  v146 := Tryd.zeroValue173
  g1 := by kernel_rfl }
open Go.RowKit Go.Lib in
theorem Tryd.strings_Cut (s sep : ByteArray) (m : Int) (w : World) (hs : s.size < 4294967281) (hm : w.cell? ⟨0, 0, none⟩ = some (.int .i64 m)) :
    Calls Tryd.prog 66 #[.string s, .string sep] w fun e w' => e = .returned (.tuple #[.string ⟨(Lib.cut s.data.toList sep.data.toList).1.toArray⟩, .string ⟨(Lib.cut s.data.toList sep.data.toList).2.1.toArray⟩, .bool (Lib.cut s.data.toList sep.data.toList).2.2]) ∧ ∃ n, w' = w.drewN n := Any.strings_Cut Tryd.lays145 s sep m w hs hm
def Tryd.lays146_ren : Go.Shelf.Ren := ⟨fun | 146 => 91 | 221 => 102 | 268 => 113 | 138 => 114 | 143 => 115 | 195 => 125 | 197 => 126 | 218 => 127 | 219 => 101 | 260 => 135 | 217 => 109 | 225 => 110 | 224 => 111 | 267 => 112 | 266 => 123 | 314 => 124 | n => n, fun | 9 => 9 | 31 => 114 | 3 => 3 | 4 => 4 | 0 => 0 | 105 => 176 | 21 => 21 | 5 => 5 | 46 => 165 | 119 => 193 | 139 => 196 | 138 => 195 | 146 => 173 | 51 => 170 | n => n, fun | 1 => 0 | 3 => 6 | 4 => 7 | n => n⟩
theorem Tryd.lays146 : Go.Proofs.Lays.n146 Tryd.prog Tryd.lays146_ren := {
  mixed := by kernel_rfl
  f138 := Tryd.func114.trans (congrArg some (by kernel_rfl))
  f143 := Tryd.func115.trans (congrArg some (by kernel_rfl))
  f146 := Tryd.func91.trans (congrArg some (by kernel_rfl))
  f195 := Tryd.func125.trans (congrArg some (by kernel_rfl))
  f197 := Tryd.func126.trans (congrArg some (by kernel_rfl))
  f217 := Tryd.func109.trans (congrArg some (by kernel_rfl))
  f218 := Tryd.func127.trans (congrArg some (by kernel_rfl))
  f219 := Tryd.func101.trans (congrArg some (by kernel_rfl))
  f221 := Tryd.func102.trans (congrArg some (by kernel_rfl))
  f224 := Tryd.func111.trans (congrArg some (by kernel_rfl))
  f225 := Tryd.func110.trans (congrArg some (by kernel_rfl))
  f260 := Tryd.func135.trans (congrArg some (by kernel_rfl))
  f266 := Tryd.func123.trans (congrArg some (by kernel_rfl))
  f267 := Tryd.func112.trans (congrArg some (by kernel_rfl))
  f268 := Tryd.func113.trans (congrArg some (by kernel_rfl))
  f314 := Tryd.func124.trans (congrArg some (by kernel_rfl))
  t0 := Tryd.underlying0
  a0 := Tryd.isAgg0
  z0 := Tryd.sizeOf0
  v0 := Tryd.zeroValue0
  t3 := Tryd.underlying3
  a3 := Tryd.isAgg3
  z3 := Tryd.sizeOf3
  v3 := Tryd.zeroValue3
  t4 := Tryd.underlying4
  a4 := Tryd.isAgg4
  z4 := Tryd.sizeOf4
  v4 := Tryd.zeroValue4
  t5 := Tryd.underlying5
  a5 := Tryd.isAgg5
  z5 := Tryd.sizeOf5
  v5 := Tryd.zeroValue5
  t9 := Tryd.underlying9
  a9 := Tryd.isAgg9
  z9 := Tryd.sizeOf9
  v9 := Tryd.zeroValue9
  t21 := Tryd.underlying21
  a21 := Tryd.isAgg21
  z21 := Tryd.sizeOf21
  v21 := Tryd.zeroValue21
  t31 := Tryd.underlying114
  a31 := Tryd.isAgg114
  z31 := Tryd.sizeOf114
  v31 := Tryd.zeroValue114
  t46 := Tryd.underlying165
  a46 := Tryd.isAgg165
  z46 := Tryd.sizeOf165
  v46 := Tryd.zeroValue165
  t51 := Tryd.underlying170
  a51 := Tryd.isAgg170
  z51 := Tryd.sizeOf170
  v51 := Tryd.zeroValue170
  t105 := Tryd.underlying176
  a105 := Tryd.isAgg176
  z105 := Tryd.sizeOf176
  v105 := Tryd.zeroValue176
  t119 := Tryd.underlying193
  a119 := Tryd.isAgg193
  z119 := Tryd.sizeOf193
  t138 := Tryd.underlying195
  a138 := Tryd.isAgg195
  z138 := Tryd.sizeOf195
  v138 := Tryd.zeroValue195
  t139 := Tryd.underlying196
  a139 := Tryd.isAgg196
  z139 := Tryd.sizeOf196
  v139 := Tryd.zeroValue196
  t146 := Tryd.underlying173
  a146 := Tryd.isAgg173
  z146 := Tryd.sizeOf173
  v146 := Tryd.zeroValue173
  g1 := by kernel_rfl
  g3 := by kernel_rfl
  g4 := by kernel_rfl }
open Go.RowKit Go.Lib in
theorem Tryd.strings_Split (s sep : ByteArray) (m : Int) (w : World) (hs : s.size < 4294967281) (hm : w.cell? ⟨0, 0, none⟩ = some (.int .i64 m)) (h1 : 1 ≤ sep.size) :
    Calls Tryd.prog 91 #[.string s, .string sep] w fun e w' =>
      e = .returned (.slice (some ⟨w.heap.size, 0, none⟩) (Lib.countB s sep + 1) (Lib.countB s sep + 1)) ∧ w' = w.alloc (.cells ((Lib.splitB sep 0 (Lib.countB s sep) s).map Value.string).toArray 9) := Any.strings_Split Tryd.lays146 (by kernel_rfl) s sep m w hs hm h1
def Tryd.lays240_ren : Go.Shelf.Ren := ⟨fun | 240 => 87 | 276 => 98 | n => n, fun | 0 => 0 | 4 => 4 | 9 => 9 | 20 => 20 | 37 => 111 | 70 => 110 | 72 => 113 | 164 => 151 | n => n, fun | n => n⟩
theorem Tryd.lays240 : Go.Proofs.Lays.n240 Tryd.prog Tryd.lays240_ren := {
  mixed := by kernel_rfl
  f240 := Tryd.func87.trans (congrArg some (by kernel_rfl))
  f276 := Tryd.func98.trans (congrArg some (by kernel_rfl))
  t0 := Tryd.underlying0
  a0 := Tryd.isAgg0
  z0 := Tryd.sizeOf0
  v0 := Tryd.zeroValue0
  t4 := Tryd.underlying4
  a4 := Tryd.isAgg4
  z4 := Tryd.sizeOf4
  v4 := Tryd.zeroValue4
  t9 := Tryd.underlying9
  a9 := Tryd.isAgg9
  z9 := Tryd.sizeOf9
  v9 := Tryd.zeroValue9
  t20 := Tryd.underlying20
  a20 := Tryd.isAgg20
  z20 := Tryd.sizeOf20
  v20 := Tryd.zeroValue20
  t70 := Tryd.underlying110
  a70 := Tryd.isAgg110
  z70 := Tryd.sizeOf110
  v70 := Tryd.zeroValue110
  t72 := Tryd.underlying113
  a72 := Tryd.isAgg113
  z72 := Tryd.sizeOf113
  v72 := Tryd.zeroValue113
  t164 := Tryd.underlying151
  a164 := Tryd.isAgg151
  z164 := Tryd.sizeOf151
  v164 := Tryd.zeroValue151 }
theorem Tryd.Builder_X72_240 : Builder.X72 Tryd.prog Tryd.lays240_ren := {
  sizeBuilder := by kernel_rfl
  liesBuilder := by kernel_rfl }
end Go.Proofs
namespace Go.Proofs.YtcdepkflghcjpaaDoor
set_option linter.unusedSimpArgs false
set_option linter.unusedVariables false
open Go.RowKit
set_option maxRecDepth 20000

theorem Tryd.copy_fresh (b : Nat) (w : World) (h0 : w.cell? ⟨b, 0, none⟩ = some (.pointer none)) (hsh : w.shape? b = some (113, 2)) (hfz : w.frozen? ⟨b, 0, none⟩ = false) :
    Calls Tryd.prog 87 #[.pointer (some ⟨b, 0, none⟩)] w fun e w' => e = .returned (.tuple #[]) ∧ w' = w.setCell ⟨b, 0, none⟩ (.pointer (some ⟨b, 0, none⟩)) := Any.Builder_copyCheck_fresh Tryd.lays240 Tryd.Builder_X72_240 b w h0 hsh hfz
theorem Tryd.copy_used (b : Nat) (w : World) (h0 : w.cell? ⟨b, 0, none⟩ = some (.pointer (some ⟨b, 0, none⟩))) :
    Calls Tryd.prog 87 #[.pointer (some ⟨b, 0, none⟩)] w fun e w' => e = .returned (.tuple #[]) ∧ w' = w := Any.Builder_copyCheck_used Tryd.lays240 Tryd.Builder_X72_240 b w h0
theorem bld_at {R : RO} {ι : IM} {h : LH} {B : Nat} {w : World} (hr : Rep R ι h B w) {k ver : Nat} {t : TypeId} {c0 c1 : LV} (hk : k < h.n) (hf : h.f k = (ver, .tbox t [c0, c1])) :
    (ι k).o = 0 ∧ (ι k).m = 2 ∧ ∃ v0 v1, w.heap[(ι k).b]? = some (.cells #[v0, v1] t (0, 0)) ∧ Rv R ι h c0 v0 ∧ Rv R ι h c1 v1 := by
  have hty := hr.ty k hk
  rw [hf] at hty
  obtain ⟨h1, h2, h3⟩ := hty
  have hm : (ι k).m ≠ 0 := by rw [h2]; simp
  obtain ⟨c0', hw0⟩ := h3 hm
  have hc := hr.cells k hk (by rw [hf]; rfl) (by rw [hf]; rfl) hm
  obtain ⟨cl, e, hw, hs, _, _, hcl⟩ := hc.ex
  rw [hf] at hcl
  rw [h1, h2] at hs
  have e1 : e = t := by
    rw [hw] at hw0
    injection hw0 with hw0
    injection hw0 with _ hw0 _
  subst e1
  obtain ⟨v0, a1, a2⟩ := hcl 0 0 c0 rfl
  obtain ⟨v1, b1, b2⟩ := hcl 0 1 c1 rfl
  rw [h1] at a1 b1
  simp only [LO.sz, Nat.zero_mul, Nat.zero_add, Nat.add_zero] at a1 b1
  refine ⟨h1, h2, v0, v1, ?_, a2, b2⟩
  rw [hw]
  have : cl = #[v0, v1] := by
    apply Array.ext_getElem?
    intro i
    match i with
    | 0 => rw [a1]; rfl
    | 1 => rw [b1]; rfl
    | i + 2 => rw [Array.getElem?_eq_none (by rw [hs]; simp), Array.getElem?_eq_none (by simp)]
  rw [this]
theorem lc_copy_fresh {h : LH} {k ver : Nat} {c1 : LV} (hk : k < h.n) (hf : h.f k = (ver, .tbox 113 [.sc (.pointer none), c1])) :
    LCall Tryd.prog 87 [.ptr k ver 0 0 0] h (.tup []) (h.set k (ver, .tbox 113 [.ptr k ver 0 0 0, c1])) := by
  rintro B R ι w ⟨vs⟩ hB hr hsz ha
  match vs, hsz with
  | [v], _ =>
    obtain ⟨h1, h2, v0, v1, hw, hv0, hv1⟩ := bld_at hr hk hf
    have hp : Rv R ι h (.ptr k ver 0 0 0) v := ha 0 _ rfl
    obtain ⟨a, rfl, _, _, hpl⟩ := hp.ptr_inv
    have hpl := hpl (by rw [hf])
    have e0 : a = ⟨(ι k).b, 0, none⟩ := by rw [hpl, h1]
    have ev := hv0.sc_inv.1
    subst ev
    have hst := st1_ok (P := Tryd.prog) hr hB (sz := 0) (i := 0) (c := 0) (a := a) (lv := .ptr k ver 0 0 0) hk (by rw [hf]) hpl (by rw [hf]; exact ⟨rfl, rfl, by simp, rfl⟩) hp
    rw [hf] at hst
    subst e0
    refine (Tryd.copy_fresh (ι k).b w (by simp [World.cell?, hw]) (by simp [World.shape?, hw]) (by simp [World.frozen?, hw])).mono ?_
    rintro e w' ⟨rfl, rfl⟩
    exact ⟨_, R, ι, rfl, hst.2, .tup _ _ rfl (fun i c hi => by simp at hi)⟩
theorem lc_copy_used {h : LH} {k ver : Nat} {c1 : LV} (hk : k < h.n) (hf : h.f k = (ver, .tbox 113 [.ptr k ver 0 0 0, c1])) :
    LCall Tryd.prog 87 [.ptr k ver 0 0 0] h (.tup []) h := by
  rintro B R ι w ⟨vs⟩ hB hr hsz ha
  match vs, hsz with
  | [v], _ =>
    obtain ⟨h1, h2, v0, v1, hw, hv0, hv1⟩ := bld_at hr hk hf
    have hp : Rv R ι h (.ptr k ver 0 0 0) v := ha 0 _ rfl
    obtain ⟨a, rfl, _, _, hpl⟩ := hp.ptr_inv
    have hpl := hpl (by rw [hf])
    have e0 : a = ⟨(ι k).b, 0, none⟩ := by rw [hpl, h1]
    obtain ⟨a', rfl, _, _, hpl'⟩ := hv0.ptr_inv
    have hpl' := hpl' (by rw [hf])
    have e0' : a' = ⟨(ι k).b, 0, none⟩ := by rw [hpl', h1]
    subst e0 e0'
    refine (Tryd.copy_used (ι k).b w (by simp [World.cell?, hw])).mono ?_
    rintro e w' ⟨rfl, rfl⟩
    exact ⟨_, R, ι, rfl, Trans.refl hr hB, .tup _ _ rfl (fun i c hi => by simp at hi)⟩
end Go.Proofs.YtcdepkflghcjpaaDoor
namespace Go.Proofs.YtcdepkflghcjpaaDoor
set_option linter.unusedSimpArgs false
set_option linter.unusedVariables false
open Go.RowKit
set_option maxRecDepth 20000

theorem set_self {h : LH} {k : Nat} {vo : Nat × LO} : (h.set k vo).f k = vo := by simp [LH.set]
theorem set_ne {h : LH} {k j : Nat} {vo : Nat × LO} (hne : j ≠ k) : (h.set k vo).f j = h.f j := by simp [LH.set, hne]
theorem set_n {h : LH} {k : Nat} {vo : Nat × LO} : (h.set k vo).n = h.n := rfl
theorem strI_len (s : ByteArray) : (strI s).length = s.size := by simp [strI]
def bysF (xs : List Int) (i : Nat) : List LV := [.sc (.int .u8 (xs.getD i 0))]
def bldS (h : LH) (kb vb kr vr : Nat) (xs : List Int) : LH := (h.set kr (vr, .byt 5 xs)).set kb (vb, .tbox 113 [.ptr kb vb 0 0 0, .sl kr vr 1 0 xs.length])
theorem lc_ws_row {h : LH} {kb vb kr vr : Nat} {xs : List Int} (hkb : kb < h.n) (hb : h.f kb = (vb, .tbox 113 [.ptr kb vb 0 0 0, .sl kr vr 1 0 xs.length])) (hkr : kr < h.n) (hr : h.f kr = (vr, .byt 5 xs)) (hne : kr ≠ kb)
    (s : ByteArray) (hs : 0 < s.size) (hroom : xs.length + s.size ≤ 1000000) :
    LCall Tryd.prog 61 [.ptr kb vb 0 0 0, .sc (.string s)] h (.tup [.sc (.int .i64 s.size), .sc .nilIface]) (bldS h kb vb kr (vr + 1) (xs ++ strI s)) := by
  refine lcall_of_lwpH Tryd.func61 comp61 (show 2 ≤ Tryd.f61.ntmps by decide) ?_
  unfold cf61 rf61
  simp only [↓EVP0, EVQ0, EVQ1, EVQ2, EVQ3, EVQ4, EVA, EVK, true_and, ↓reduceIte, Nat.reduceEqDiff, Nat.reduceAdd, Nat.reduceSub, Nat.reduceMul, Nat.reduceLT, Nat.reduceLeDiff, reduceCtorEq, Int.reduceToNat, Int.reduceLT, Int.reduceLE, Int.reduceAdd, Int.reduceSub, Int.reduceMul, Int.reduceNeg, Int.reduceEq, Nat.reduceMod, forall_eq_or_imp, forall_eq, forall_const, cond_true, cond_false, decide_true, decide_false, true_imp_iff, implies_true, Int.cast_ofNat_Int, forall_eq']
  refine callK_mut (lc_copy_used hkb hb) ?_
  simp only [↓EVP0, EVQ0, EVQ1, EVQ2, EVQ3, EVQ4, EVA, EVK, true_and, ↓reduceIte, Nat.reduceEqDiff, Nat.reduceAdd, Nat.reduceSub, Nat.reduceMul, Nat.reduceLT, Nat.reduceLeDiff, reduceCtorEq, Int.reduceToNat, Int.reduceLT, Int.reduceLE, Int.reduceAdd, Int.reduceSub, Int.reduceMul, Int.reduceNeg, Int.reduceEq, Nat.reduceMod, forall_eq_or_imp, forall_eq, forall_const, cond_true, cond_false, decide_true, decide_false, true_imp_iff, implies_true, Int.cast_ofNat_Int, forall_eq']
  simp only [hb]
  simp only [↓EVP0, EVQ0, EVQ1, EVQ2, EVQ3, EVQ4, EVA, EVK, true_and, ↓reduceIte, Nat.reduceEqDiff, Nat.reduceAdd, Nat.reduceSub, Nat.reduceMul, Nat.reduceLT, Nat.reduceLeDiff, reduceCtorEq, Int.reduceToNat, Int.reduceLT, Int.reduceLE, Int.reduceAdd, Int.reduceSub, Int.reduceMul, Int.reduceNeg, Int.reduceEq, Nat.reduceMod, forall_eq_or_imp, forall_eq, forall_const, cond_true, cond_false, decide_true, decide_false, true_imp_iff, implies_true, Int.cast_ofNat_Int, forall_eq']
  simp only [hr, set_self, set_ne (Ne.symm hne), set_n, hb]
  simp only [↓EVP0, EVQ0, EVQ1, EVQ2, EVQ3, EVQ4, EVA, EVK, true_and, ↓reduceIte, Nat.reduceEqDiff, Nat.reduceAdd, Nat.reduceSub, Nat.reduceMul, Nat.reduceLT, Nat.reduceLeDiff, reduceCtorEq, Int.reduceToNat, Int.reduceLT, Int.reduceLE, Int.reduceAdd, Int.reduceSub, Int.reduceMul, Int.reduceNeg, Int.reduceEq, Nat.reduceMod, forall_eq_or_imp, forall_eq, forall_const, cond_true, cond_false, decide_true, decide_false, true_imp_iff, implies_true, Int.cast_ofNat_Int, forall_eq']
  refine ⟨hkb, by rw [strI_len]; exact hs, hkr, by unfold appRoom; rw [strI_len]; omega, hkb, ?_⟩
  unfold finH bldS
  simp only [↓EVP0, EVQ0, EVQ1, EVQ2, EVQ3, EVQ4, EVA, EVK, true_and, ↓reduceIte, Nat.reduceEqDiff, Nat.reduceAdd, Nat.reduceSub, Nat.reduceMul, Nat.reduceLT, Nat.reduceLeDiff, reduceCtorEq, Int.reduceToNat, Int.reduceLT, Int.reduceLE, Int.reduceAdd, Int.reduceSub, Int.reduceMul, Int.reduceNeg, Int.reduceEq, Nat.reduceMod, forall_eq_or_imp, forall_eq, forall_const, cond_true, cond_false, decide_true, decide_false, true_imp_iff, implies_true, Int.cast_ofNat_Int, forall_eq']
  rw [List.length_append]
theorem bytR (c : Int) : ∀ i, i < 1 → bysF [c] i = List.take 1 (List.drop (i * 1) [LV.sc (.int .u8 c)]) := by
  intro i hi
  obtain rfl : i = 0 := by omega
  rfl
theorem bytR2 (c : Int) : ∀ i, i < 1 → isU8 ((bysF [c] i).getD 0 .any) := by
  intro i hi
  obtain rfl : i = 0 := by omega
  exact trivial
theorem yB_one (c : Int) : yB (.rsl 1 1 (bysF [c])) = [c] := rfl
theorem lc_wb_row {h : LH} {kb vb kr vr : Nat} {xs : List Int} (hkb : kb < h.n) (hb : h.f kb = (vb, .tbox 113 [.ptr kb vb 0 0 0, .sl kr vr 1 0 xs.length])) (hkr : kr < h.n) (hr : h.f kr = (vr, .byt 5 xs)) (hne : kr ≠ kb)
    (c : Int) (hroom : xs.length ≤ 1000000) :
    LCall Tryd.prog 63 [.ptr kb vb 0 0 0, .sc (.int .u8 c)] h (.sc .nilIface) (bldS h kb vb kr (vr + 1) (xs ++ [c])) := by
  refine lcall_of_lwpH Tryd.func63 comp63 (show 2 ≤ Tryd.f63.ntmps by decide) ?_
  unfold cf63 rf63
  simp only [↓EVP0, EVQ0, EVQ1, EVQ2, EVQ3, EVQ4, EVA, EVK, true_and, ↓reduceIte, Nat.reduceEqDiff, Nat.reduceAdd, Nat.reduceSub, Nat.reduceMul, Nat.reduceLT, Nat.reduceLeDiff, reduceCtorEq, Int.reduceToNat, Int.reduceLT, Int.reduceLE, Int.reduceAdd, Int.reduceSub, Int.reduceMul, Int.reduceNeg, Int.reduceEq, Nat.reduceMod, forall_eq_or_imp, forall_eq, forall_const, cond_true, cond_false, decide_true, decide_false, true_imp_iff, implies_true, Int.cast_ofNat_Int, forall_eq']
  refine callK_mut (lc_copy_used hkb hb) ?_
  simp only [↓EVP0, EVQ0, EVQ1, EVQ2, EVQ3, EVQ4, EVA, EVK, true_and, ↓reduceIte, Nat.reduceEqDiff, Nat.reduceAdd, Nat.reduceSub, Nat.reduceMul, Nat.reduceLT, Nat.reduceLeDiff, reduceCtorEq, Int.reduceToNat, Int.reduceLT, Int.reduceLE, Int.reduceAdd, Int.reduceSub, Int.reduceMul, Int.reduceNeg, Int.reduceEq, Nat.reduceMod, forall_eq_or_imp, forall_eq, forall_const, cond_true, cond_false, decide_true, decide_false, true_imp_iff, implies_true, Int.cast_ofNat_Int, forall_eq']
  simp only [hb]
  simp only [↓EVP0, EVQ0, EVQ1, EVQ2, EVQ3, EVQ4, EVA, EVK, true_and, ↓reduceIte, Nat.reduceEqDiff, Nat.reduceAdd, Nat.reduceSub, Nat.reduceMul, Nat.reduceLT, Nat.reduceLeDiff, reduceCtorEq, Int.reduceToNat, Int.reduceLT, Int.reduceLE, Int.reduceAdd, Int.reduceSub, Int.reduceMul, Int.reduceNeg, Int.reduceEq, Nat.reduceMod, forall_eq_or_imp, forall_eq, forall_const, cond_true, cond_false, decide_true, decide_false, true_imp_iff, implies_true, Int.cast_ofNat_Int, forall_eq']
  refine ⟨hkb, bysF [c], bytR c, ?_⟩
  simp only [yB_one, hr, set_self, set_ne (Ne.symm hne), set_n, hb]
  simp only [↓EVP0, EVQ0, EVQ1, EVQ2, EVQ3, EVQ4, EVA, EVK, true_and, ↓reduceIte, Nat.reduceEqDiff, Nat.reduceAdd, Nat.reduceSub, Nat.reduceMul, Nat.reduceLT, Nat.reduceLeDiff, reduceCtorEq, Int.reduceToNat, Int.reduceLT, Int.reduceLE, Int.reduceAdd, Int.reduceSub, Int.reduceMul, Int.reduceNeg, Int.reduceEq, Nat.reduceMod, forall_eq_or_imp, forall_eq, forall_const, cond_true, cond_false, decide_true, decide_false, true_imp_iff, implies_true, Int.cast_ofNat_Int, forall_eq']
  refine ⟨bytR2 c, hkr, by unfold appRoom; omega, hkb, ?_⟩
  unfold finH bldS
  simp only [↓EVP0, EVQ0, EVQ1, EVQ2, EVQ3, EVQ4, EVA, EVK, true_and, ↓reduceIte, Nat.reduceEqDiff, Nat.reduceAdd, Nat.reduceSub, Nat.reduceMul, Nat.reduceLT, Nat.reduceLeDiff, reduceCtorEq, Int.reduceToNat, Int.reduceLT, Int.reduceLE, Int.reduceAdd, Int.reduceSub, Int.reduceMul, Int.reduceNeg, Int.reduceEq, Nat.reduceMod, forall_eq_or_imp, forall_eq, forall_const, cond_true, cond_false, decide_true, decide_false, true_imp_iff, implies_true, Int.cast_ofNat_Int, forall_eq']
  rw [List.length_append]; rfl
def bldN (h : LH) (kb vb : Nat) (xs : List Int) : LH := ((h.set kb (vb, .tbox 113 [.ptr kb vb 0 0 0, .nsl])).push (.byt 5 xs)).set kb (vb, .tbox 113 [.ptr kb vb 0 0 0, .sl h.n 0 1 0 xs.length])
theorem push_old {h : LH} {k : Nat} {ob : LO} (hk : k < h.n) : (h.push ob).f k = h.f k := by simp [LH.push, Nat.ne_of_lt hk]
theorem push_n {h : LH} {ob : LO} : (h.push ob).n = h.n + 1 := rfl
theorem lc_ws_new {h : LH} {kb vb : Nat} (hkb : kb < h.n) (hb : h.f kb = (vb, .tbox 113 [.sc (.pointer none), .nsl]))
    (s : ByteArray) (hs : 0 < s.size) (hroom : s.size ≤ 1000000) :
    LCall Tryd.prog 61 [.ptr kb vb 0 0 0, .sc (.string s)] h (.tup [.sc (.int .i64 s.size), .sc .nilIface]) (bldN h kb vb (strI s)) := by
  refine lcall_of_lwpH Tryd.func61 comp61 (show 2 ≤ Tryd.f61.ntmps by decide) ?_
  unfold cf61 rf61
  simp only [↓EVP0, EVQ0, EVQ1, EVQ2, EVQ3, EVQ4, EVA, EVK, true_and, ↓reduceIte, Nat.reduceEqDiff, Nat.reduceAdd, Nat.reduceSub, Nat.reduceMul, Nat.reduceLT, Nat.reduceLeDiff, reduceCtorEq, Int.reduceToNat, Int.reduceLT, Int.reduceLE, Int.reduceAdd, Int.reduceSub, Int.reduceMul, Int.reduceNeg, Int.reduceEq, Nat.reduceMod, forall_eq_or_imp, forall_eq, forall_const, cond_true, cond_false, decide_true, decide_false, true_imp_iff, implies_true, Int.cast_ofNat_Int, forall_eq']
  refine callK_mut (lc_copy_fresh hkb hb) ?_
  simp only [↓EVP0, EVQ0, EVQ1, EVQ2, EVQ3, EVQ4, EVA, EVK, true_and, ↓reduceIte, Nat.reduceEqDiff, Nat.reduceAdd, Nat.reduceSub, Nat.reduceMul, Nat.reduceLT, Nat.reduceLeDiff, reduceCtorEq, Int.reduceToNat, Int.reduceLT, Int.reduceLE, Int.reduceAdd, Int.reduceSub, Int.reduceMul, Int.reduceNeg, Int.reduceEq, Nat.reduceMod, forall_eq_or_imp, forall_eq, forall_const, cond_true, cond_false, decide_true, decide_false, true_imp_iff, implies_true, Int.cast_ofNat_Int, forall_eq']
  simp only [set_self, set_n]
  simp only [↓EVP0, EVQ0, EVQ1, EVQ2, EVQ3, EVQ4, EVA, EVK, true_and, ↓reduceIte, Nat.reduceEqDiff, Nat.reduceAdd, Nat.reduceSub, Nat.reduceMul, Nat.reduceLT, Nat.reduceLeDiff, reduceCtorEq, Int.reduceToNat, Int.reduceLT, Int.reduceLE, Int.reduceAdd, Int.reduceSub, Int.reduceMul, Int.reduceNeg, Int.reduceEq, Nat.reduceMod, forall_eq_or_imp, forall_eq, forall_const, cond_true, cond_false, decide_true, decide_false, true_imp_iff, implies_true, Int.cast_ofNat_Int, forall_eq']
  simp only [push_old (h := h.set kb _) hkb, push_n, set_self, set_n]
  simp only [↓EVP0, EVQ0, EVQ1, EVQ2, EVQ3, EVQ4, EVA, EVK, true_and, ↓reduceIte, Nat.reduceEqDiff, Nat.reduceAdd, Nat.reduceSub, Nat.reduceMul, Nat.reduceLT, Nat.reduceLeDiff, reduceCtorEq, Int.reduceToNat, Int.reduceLT, Int.reduceLE, Int.reduceAdd, Int.reduceSub, Int.reduceMul, Int.reduceNeg, Int.reduceEq, Nat.reduceMod, forall_eq_or_imp, forall_eq, forall_const, cond_true, cond_false, decide_true, decide_false, true_imp_iff, implies_true, Int.cast_ofNat_Int, forall_eq']
  refine ⟨hkb, by rw [strI_len]; exact hs, by unfold appRoom; rw [strI_len]; omega, by omega, ?_⟩
  unfold finH bldN
  simp only [↓EVP0, EVQ0, EVQ1, EVQ2, EVQ3, EVQ4, EVA, EVK, true_and, ↓reduceIte, Nat.reduceEqDiff, Nat.reduceAdd, Nat.reduceSub, Nat.reduceMul, Nat.reduceLT, Nat.reduceLeDiff, reduceCtorEq, Int.reduceToNat, Int.reduceLT, Int.reduceLE, Int.reduceAdd, Int.reduceSub, Int.reduceMul, Int.reduceNeg, Int.reduceEq, Nat.reduceMod, forall_eq_or_imp, forall_eq, forall_const, cond_true, cond_false, decide_true, decide_false, true_imp_iff, implies_true, Int.cast_ofNat_Int, forall_eq']
end Go.Proofs.YtcdepkflghcjpaaDoor
namespace Go.Proofs.YtcdepkflghcjpaaDoor
set_option linter.unusedSimpArgs false
set_option linter.unusedVariables false
open Go.RowKit
set_option maxRecDepth 20000

set_option maxHeartbeats 2000000 in
set_option maxRecDepth 100000 in
theorem str_run {P : Program} {ρ : Go.Shelf.Ren} (L : Lays.n169 P ρ) (X : Builder.Extra P ρ) (b g cap n : Nat) (l : List UInt8) (w : World) (c1' : w.cell? ⟨b, 1, none⟩ = some (.slice (some ⟨g, 0, none⟩) l.length cap))
    (hsh : w.shape? g = some (ρ.t 5, n)) (hln : l.length ≤ n) (h0 : l ≠ []) (hlc : l.length ≤ cap) (hcm : cap ≤ maxLen) (hby : ∀ (j : Nat) (x : UInt8), l[j]? = some x → w.cell? ((⟨g, 0, none⟩ : Addr).add j) = some (.int .u8 x.toNat)) :
    Calls P (ρ.f 169) #[.pointer (some ⟨b, 0, none⟩)] w fun e w' => e = .returned (.string ⟨l.toArray⟩) ∧ w' = w.drew.freeze ⟨g, 0, none⟩ l.length := by
  have hl0 : l.length ≠ 0 := by simpa using h0
  have c1 : w.drew.cell? ⟨b, 1, none⟩ = some (.slice (some ⟨g, 0, none⟩) l.length cap) := c1'
  have hSD : (Builtin.unsafeSliceData_ #[(ρ.t 37)] (ρ.t 127) #[.slice (some ⟨g, 0, none⟩) l.length cap]).run P w.drew = .ok (.pointer (some ⟨g, 0, none⟩)) w.drew :=
    Lib.run_unsafeSliceData_row _ _ _ _ _ _ (by omega)
  have hUS : (Builtin.unsafeString_ #[(ρ.t 127), (ρ.t 3)] (ρ.t 9) #[.pointer (some ⟨g, 0, none⟩), .int .i64 l.length]).run P w.drew = .ok (.string ⟨l.toArray⟩) (w.drew.freeze ⟨g, 0, none⟩ l.length) :=
    Lib.run_unsafeString_row w.drew (ρ.t 127) (ρ.t 3) (ρ.t 9) (ρ.t 5) L.t127 X.cellsByte g n hsh l h0 hln (by unfold maxLen at hcm; omega) hby
  have mixed := L.mixed
  have t72 := L.t72; have a72 := L.a72; have z72 := L.z72; have v72 := L.v72; have u72 := run_underlying L.t72
  have t70 := L.t70; have a70 := L.a70; have z70 := L.z70; have v70 := L.v70; have u70 := run_underlying L.t70
  have t37 := L.t37; have a37 := L.a37; have z37 := L.z37; have v37 := L.v37; have u37 := run_underlying L.t37
  have t127 := L.t127; have a127 := L.a127; have z127 := L.z127; have v127 := L.v127; have u127 := run_underlying L.t127
  have t3 := L.t3; have a3 := L.a3; have z3 := L.z3; have v3 := L.v3; have u3 := run_underlying L.t3
  have t9 := L.t9; have a9 := L.a9; have z9 := L.z9; have v9 := L.v9; have u9 := run_underlying L.t9
  have t5 := X.t5; have a5 := X.a5; have z5 := X.z5; have v5 := X.v5; have u5 := run_underlying X.t5
  go_enter L.f169, Body.n169_ntmps ρ
  go_wp2
  go_region_o
  all_goals (go_wp2; go_ret; exact ⟨rfl, rfl⟩)
theorem Rep.drop {R : RO} {ι : IM} {h : LH} {B : Nat} {w w' : World} (hr : Rep R ι h B w) (hB : B ≤ w.heap.size) {k : Nat} (hk : k < h.n) (hlive : (h.f k).2.live = true) (hm : (ι k).m ≠ 0)
    (hos : w'.os = w.os) (htape : w'.tape = w.tape) (hout : w'.output = w.output) (hsize : w'.heap.size = w.heap.size) (hother : ∀ b, b ≠ (ι k).b → w'.heap[b]? = w.heap[b]?) :
    Trans B R ι h w R ι (h.set k ((h.f k).1, .dead)) w' := by
  have hmono : Mono R ι h R ι (h.set k ((h.f k).1, .dead)) := by
    refine ⟨fun _ _ hx => hx, Nat.le_refl _, fun j hj => ?_, fun j hj hv => rfl⟩
    by_cases e : j = k
    · subst e; simp [LH.set]
    · simp [LH.set, e]
  have hf : ∀ j, j ≠ k → (h.set k ((h.f k).1, .dead)).f j = h.f j := fun j hj => by simp [LH.set, hj]
  have hfk : (h.set k ((h.f k).1, .dead)).f k = ((h.f k).1, .dead) := by simp [LH.set]
  have hbk := hr.base k hk hlive (.inl hm)
  have hne : ∀ j, j < h.n → j ≠ k → (h.f j).2.live = true → ((ι j).m ≠ 0 ∨ (h.f j).2.isMap = true) → (ι j).b ≠ (ι k).b :=
    fun j hj hjk hlv hmz e => hjk (hr.apart j k hj hk hlv hlive hmz (.inl hm) e)
  have hjk : ∀ j, ((h.set k ((h.f k).1, .dead)).f j).2.live = true → j ≠ k := by
    intro j hl e
    subst e
    rw [hfk] at hl; simp [LO.live] at hl
  refine ⟨⟨?_, ?_, ?_, ?_, ?_, ?_, ?_, hr.gl⟩, hmono, ⟨hos, htape, hout, by omega, fun b hb => hother b (by omega)⟩, fun _ _ => rfl, hB⟩
  · intro b o hb
    rw [hother b (fun e => by rw [e, hbk.2.2] at hb; simp at hb)]
    exact hr.ro b o hb
  · intro j hj hlv hmp hmz
    have e := hjk j hlv
    rw [hf j e] at hlv hmp ⊢
    obtain ⟨cl, e', hw, hs, hz, hpl, hcl⟩ := (hr.cells j hj hlv hmp hmz).ex
    exact ⟨cl, e', by rw [hother _ (hne j hj e hlv (.inl hmz))]; exact hw, hs, hz, hpl, fun i c' lv hx => let ⟨v, a1, a2⟩ := hcl i c' lv hx; ⟨v, a1, a2.mono hmono⟩⟩
  · intro j hj hlv hmp hmz
    have e := hjk j hlv
    rw [hf j e] at hlv hmp ⊢
    exact hr.empty j hj hlv hmp hmz
  · intro j hj hlv hmz
    have e := hjk j hlv
    rw [hf j e] at hlv hmz
    obtain ⟨a, b, c⟩ := hr.base j hj hlv hmz
    exact ⟨a, by omega, c⟩
  · intro j j' hj hj' hlv hlv' hmz hmz' hbb
    have e := hjk j hlv
    have e' := hjk j' hlv'
    rw [hf j e] at hlv hmz
    rw [hf j' e'] at hlv' hmz'
    exact hr.apart j j' hj hj' hlv hlv' hmz hmz' hbb
  · intro j es hj hes
    have e := hjk j (by rw [hes]; rfl)
    rw [hf j e] at hes
    obtain ⟨ents, clock, q1, q2, q3, q4⟩ := hr.maps j es hj hes
    refine ⟨ents, clock, ?_, q2, q3, fun i kv hkv => let ⟨en, a1, a2, a3⟩ := q4 i kv hkv; ⟨en, a1, a2, a3.mono hmono⟩⟩
    rw [hother _ (hne j hj e (by rw [hes]; rfl) (.inr (by rw [hes]; rfl)))]; exact q1
  · intro j hj
    by_cases e : j = k
    · subst e; rw [hfk]; exact trivial
    · rw [hf j e]
      exact (hr.ty j hj).heap fun h1 h2 => hother _ (hne j hj e h1 (.inl h2))
def u8I (l : List UInt8) : List Int := l.map fun b => ((b.toNat : Nat) : Int)
theorem lc_str_row {h : LH} {kb vb kr vr : Nat} {l : List UInt8} (hkb : kb < h.n) (hb : h.f kb = (vb, .tbox 113 [.ptr kb vb 0 0 0, .sl kr vr 1 0 l.length])) (hkr : kr < h.n) (hrr : h.f kr = (vr, .byt 5 (u8I l))) (h0 : l ≠ []) :
    LCall Tryd.prog 65 [.ptr kb vb 0 0 0] h (.sc (.string ⟨l.toArray⟩)) (h.set kr (vr, .dead)) := by
  rintro B R ι w ⟨vs⟩ hB hr hsz ha
  match vs, hsz with
  | [v], _ =>
    obtain ⟨h1, h2, v0, v1, hw, hv0, hv1⟩ := bld_at hr hkb hb
    have hp : Rv R ι h (.ptr kb vb 0 0 0) v := ha 0 _ rfl
    obtain ⟨a, rfl, _, _, hpl⟩ := hp.ptr_inv
    have hpl := hpl (by rw [hb])
    have e0 : a = ⟨(ι kb).b, 0, none⟩ := by rw [hpl, h1]
    subst e0
    have hl0 : 0 < l.length := List.length_pos_iff.2 h0
    obtain ⟨sa, cap, rfl, _, _, hlc, hm, hcase⟩ := hv1.sl_inv
    obtain ⟨rfl, hcapm⟩ := (hcase.resolve_left (by omega)) (by rw [hrr])
    have hty := hr.ty kr hkr
    rw [hrr] at hty
    obtain ⟨t1, t2⟩ := hty
    simp only [Nat.zero_mul, Nat.add_zero, Nat.zero_add, Nat.mul_one] at hcapm hw
    rw [t1] at hw
    have hm0 : (ι kr).m ≠ 0 := by omega
    obtain ⟨c0, hg⟩ := t2 hm0
    have hlv : (h.f kr).2.live = true := by rw [hrr]; rfl
    obtain ⟨cl, e, hw2, hs, hle, _, hcl⟩ := (hr.cells kr hkr hlv (by rw [hrr]; rfl) hm0).ex
    rw [hw2] at hg
    injection hg with hg
    injection hg with _ hg _
    subst hg
    rw [hrr] at hcl
    have hrun := str_run Tryd.lays169 Tryd.Builder_Extra_169 (ι kb).b (ι kr).b cap cl.size l w (by simp [World.cell?, hw]) (by simp [World.shape?, hw2]; rfl) (by omega) h0 hlc hm (fun j x hx => by
      obtain ⟨u, a1, a2⟩ := hcl j 0 (.sc (.int .u8 x.toNat)) (by simp [cellAt, u8I, hx])
      have := a2.sc_inv.1
      subst this
      rw [t1] at a1
      simp only [LO.sz, Nat.mul_one, Nat.add_zero, Nat.zero_add] at a1
      rw [add_mk, Nat.zero_add]
      simp [World.cell?, hw2, a1])
    refine Calls.mono hrun ?_
    rintro e' w' ⟨rfl, rfl⟩
    have hfz : ∀ b, b ≠ (ι kr).b → (w.drew.freeze ⟨(ι kr).b, 0, none⟩ l.length).heap[b]? = w.heap[b]? := by
      intro b hb'
      unfold World.freeze
      rw [if_neg (by omega)]
      simp only [Array.getElem?_modify]
      rw [if_neg (fun e => hb' e.symm)]; rfl
    have hT := Rep.drop hr hB hkr hlv hm0 (w' := w.drew.freeze ⟨(ι kr).b, 0, none⟩ l.length) (by unfold World.freeze; split <;> rfl) (by unfold World.freeze; split <;> rfl) (by unfold World.freeze; split <;> rfl) (by unfold World.freeze; split <;> first | rfl | exact Array.size_modify) hfz
    rw [hrr] at hT
    exact ⟨_, R, ι, rfl, hT, rv_sc rfl⟩
end Go.Proofs.YtcdepkflghcjpaaDoor
namespace Go.Proofs.YtcdepkflghcjpaaDoor
set_option linter.unusedSimpArgs false
set_option linter.unusedVariables false
open Go.RowKit
set_option maxRecDepth 20000

theorem sc_inv {R : RO} {a v : Value} (h : Ro R (.sc a) v) : v = a := by cases h; rfl
def txsF (l : List ByteArray) (i : Nat) : List LV := [.sc (.string (l.getD i ⟨#[]⟩))]
def txsV (l : List ByteArray) : LV := .rsl 1 l.length (txsF l)
theorem ev_join (xs : List ByteArray) (sep : ByteArray) (hN : xs.length ≤ 140737488355328) (hlen : (Lib.join (xs.map (·.data.toList)) sep.data.toList).length ≤ 140737488355328) :
    Ev Tryd.prog 62 [txsV xs, .sc (.string sep)] (.sc (.string ⟨(Lib.join (xs.map (·.data.toList)) sep.data.toList).toArray⟩)) := by
  rintro R w ⟨vs⟩ hR hgl hs ha
  match vs, hs with
  | [v, u], _ =>
    have h0 : Ro R (.rsl 1 xs.length (txsF xs)) v := ha 0 _ rfl
    have h1 : u = .string sep := sc_inv (ha 1 _ rfl)
    subst h1
    cases h0 with
    | rsl sz n f a cap b o g hc hm hadr hf hcell hv hp =>
      rcases Nat.eq_zero_or_pos xs.length with hz | hz
      · have : xs = [] := List.length_eq_zero_iff.1 hz
        subst this
        refine (Tryd.strings_Join_none a cap sep w).mono ?_
        rintro e w' ⟨rfl, rfl⟩
        exact ⟨_, R, rfl, fun _ _ h => h, fun _ _ => rfl, hR, Below.refl _ _, .sc _ rfl⟩
      · rw [hadr hz]
        have hcl : ∀ (j : Nat) x, xs[j]? = some x → w.cell? ⟨b, o + j, none⟩ = some (.string x) := by
          intro j x hx
          have hj : j < xs.length := by
            rcases Nat.lt_or_ge j xs.length with h | h
            · exact h
            · rw [List.getElem?_eq_none h] at hx; simp at hx
          have h1 := hcell j 0 hj (by omega)
          have h2 := hv j 0 _ hj (show (txsF xs j)[0]? = some _ from rfl)
          have h3 : g j 0 = .string (xs.getD j ⟨#[]⟩) := sc_inv h2
          rw [h3, List.getD_eq_getElem?_getD, hx] at h1
          unfold roCell at h1
          split at h1
          · rename_i c t z hb
            have := hR b _ hb
            simp only [World.cell?, this]
            simpa using h1
          · simp at h1
        have hbk : b < w.heap.size := by
          have h1 := hcell 0 0 hz (by omega)
          unfold roCell at h1
          split at h1
          · rename_i c t z hb
            have := hR b _ hb
            rcases Nat.lt_or_ge b w.heap.size with h | h
            · exact h
            · rw [Array.getElem?_eq_none h] at this; simp at this
          · simp at h1
        refine (Tryd.strings_Join b o cap xs sep w hcl hbk hN hc hlen).mono ?_
        rintro e w' ⟨rfl, hB⟩
        refine ⟨_, R, rfl, fun _ _ h => h, fun _ _ => rfl, fun k q hk => ?_, hB, .sc _ rfl⟩
        have h1 := hR k q hk
        have : k < w.heap.size := by
          rcases Nat.lt_or_ge k w.heap.size with h | h
          · exact h
          · rw [Array.getElem?_eq_none h] at h1; simp at h1
        rw [hB.block k this]; exact h1
end Go.Proofs.YtcdepkflghcjpaaDoor
namespace Go.Proofs.YtcdepkflghcjpaaDoor
set_option linter.unusedSimpArgs false
set_option linter.unusedVariables false
open Go.RowKit
set_option maxRecDepth 20000

theorem ev_itoaA (n : Int) (hn : In64 n) : Ev Tryd.prog 64 [.sc (.int .i64 n)] (.sc (.string ⟨(Lib.itoa n).toArray⟩)) := by
  rintro R w ⟨vs⟩ hR hgl hs ha
  match vs, hs with
  | [v], _ =>
    have h0 : v = .int .i64 n := sc_inv (ha 0 _ rfl)
    subst h0
    refine (Tryd.strconv_Itoa n hn.1 hn.2 w (hgl w hR).1).mono ?_
    rintro e w' ⟨rfl, k, os, rfl⟩
    have hB : Below w.heap.size w (Go.Sort.grow (w.drewN k) os) := by
      refine ⟨rfl, rfl, rfl, ?_, ?_⟩
      · simp [Go.Sort.grow, World.drewN]
      · intro b hb
        simp only [Go.Sort.grow, World.drewN]
        rw [Array.getElem?_append_left (by simpa using hb)]
    refine ⟨_, R, rfl, fun _ _ h => h, fun _ _ => rfl, fun b q hb => ?_, hB, .sc _ rfl⟩
    have h1 := hR b q hb
    have : b < w.heap.size := by
      rcases Nat.lt_or_ge b w.heap.size with h | h
      · exact h
      · rw [Array.getElem?_eq_none h] at h1; simp at h1
    rw [hB.block b this]; exact h1
end Go.Proofs.YtcdepkflghcjpaaDoor
namespace Go.Proofs.YtcdepkflghcjpaaDoor
set_option linter.unusedSimpArgs false
set_option linter.unusedVariables false
open Go.RowKit
set_option maxRecDepth 20000

theorem strI_u8 (s : ByteArray) : strI s = u8I s.data.toList := rfl
theorem u8I_app (a b : List UInt8) : u8I (a ++ b) = u8I a ++ u8I b := by simp [u8I]
theorem u8I_len (a : List UInt8) : (u8I a).length = a.length := by simp [u8I]
def lineW (ws : List ByteArray) : List UInt8 := Lib.join (ws.map (·.data.toList)) [32]
def lineB (ws : List ByteArray) : List UInt8 := lineW ws ++ [10]
theorem bldS_kb {h : LH} {kb vb kr vr : Nat} {xs : List Int} : (bldS h kb vb kr vr xs).f kb = (vb, .tbox 113 [.ptr kb vb 0 0 0, .sl kr vr 1 0 xs.length]) := by simp [bldS, LH.set]
theorem bldS_kr {h : LH} {kb vb kr vr : Nat} {xs : List Int} (hne : kr ≠ kb) : (bldS h kb vb kr vr xs).f kr = (vr, .byt 5 xs) := by simp [bldS, LH.set, hne]
theorem bldS_S {h : LH} {kb vb kr v1 v2 : Nat} {x1 x2 : List Int} : bldS (bldS h kb vb kr v1 x1) kb vb kr v2 x2 = bldS h kb vb kr v2 x2 := by
  unfold bldS LH.set
  congr 1
  funext j
  by_cases e : j = kb
  · simp [e]
  · by_cases e2 : j = kr <;> simp [e, e2]
theorem bldN_kb {h : LH} {kb vb : Nat} {xs : List Int} : (bldN h kb vb xs).f kb = (vb, .tbox 113 [.ptr kb vb 0 0 0, .sl h.n 0 1 0 xs.length]) := by simp [bldN, LH.set]
theorem bldN_kr {h : LH} {kb vb : Nat} {xs : List Int} (hk : kb < h.n) : (bldN h kb vb xs).f h.n = (0, .byt 5 xs) := by
  have : ¬ h.n = kb := by omega
  simp [bldN, LH.set, LH.push, this]
theorem bldN_n {h : LH} {kb vb : Nat} {xs : List Int} : (bldN h kb vb xs).n = h.n + 1 := rfl
theorem ev_joinW (ws : List ByteArray) (hN : ws.length ≤ 1000) (hl : (lineW ws).length ≤ 1000000) : Ev Tryd.prog 62 [txsV ws, .sc (.string ⟨#[32]⟩)] (.sc (.string ⟨(lineW ws).toArray⟩)) :=
  ev_join ws ⟨#[32]⟩ (by omega) (by unfold lineW at hl; show (Lib.join (ws.map (·.data.toList)) [32]).length ≤ _; omega)
theorem lc_line_row {h : LH} {kb vb kr vr : Nat} {l : List UInt8} (hkb : kb < h.n) (hb : h.f kb = (vb, .tbox 113 [.ptr kb vb 0 0 0, .sl kr vr 1 0 l.length])) (hkr : kr < h.n) (hr : h.f kr = (vr, .byt 5 (u8I l))) (hne : kr ≠ kb)
    (ws : List ByteArray) (hN : ws.length ≤ 1000) (h0 : 0 < (lineW ws).length) (hroom : l.length + (lineW ws).length ≤ 1000000) :
    LCall Tryd.prog 60 [txsV ws, .ptr kb vb 0 0 0] h (.tup []) (bldS h kb vb kr (vr + 1 + 1) (u8I (l ++ lineB ws))) := by
  have j1 := ev_joinW ws hN (by omega)
  have s1 := lc_ws_row hkb (by rw [u8I_len]; exact hb) hkr hr hne ⟨(lineW ws).toArray⟩ (by simpa [ByteArray.size] using h0) (by rw [u8I_len]; simp [ByteArray.size]; omega)
  have e1 : strI ⟨(lineW ws).toArray⟩ = u8I (lineW ws) := by rw [strI_u8]
  rw [e1, ← u8I_app] at s1
  have s2 := lc_wb_row (h := bldS h kb vb kr (vr + 1) (u8I (l ++ lineW ws))) hkb bldS_kb hkr (bldS_kr hne) hne 10 (by rw [u8I_len, List.length_append]; exact hroom)
  rw [bldS_S, show u8I (l ++ lineW ws) ++ [10] = u8I (l ++ lineB ws) by unfold lineB; rw [← List.append_assoc, u8I_app (l ++ lineW ws)]; rfl] at s2
  unfold txsV at *
  refine lcall_of_lwpH Tryd.func60 comp60 (show 2 ≤ Tryd.f60.ntmps by decide) ?_
  unfold cf60 rf60
  simp only [↓EVP0, EVQ0, EVQ1, EVQ2, EVQ3, EVQ4, EVA, EVK, EVFS, ↓reduceIte, Nat.reduceEqDiff, Nat.reduceAdd, Nat.reduceSub, Nat.reduceMul, Nat.reduceLT, Nat.reduceLeDiff, reduceCtorEq, Int.reduceToNat, Int.reduceLT, Int.reduceLE, Int.reduceAdd, Int.reduceSub, Int.reduceMul, Int.reduceNeg, Int.reduceEq, Nat.reduceMod, forall_eq_or_imp, forall_eq, forall_const, cond_true, cond_false, decide_true, decide_false, true_imp_iff, implies_true, Int.cast_ofNat_Int, forall_eq']
  refine callK_ro (j1) ?_ ?_
  · simp only [↓EVP0, EVQ0, EVQ1, EVQ2, EVQ3, EVQ4, EVA, EVK, EVFS, ↓reduceIte, Nat.reduceEqDiff, Nat.reduceAdd, Nat.reduceSub, Nat.reduceMul, Nat.reduceLT, Nat.reduceLeDiff, reduceCtorEq, Int.reduceToNat, Int.reduceLT, Int.reduceLE, Int.reduceAdd, Int.reduceSub, Int.reduceMul, Int.reduceNeg, Int.reduceEq, Nat.reduceMod, forall_eq_or_imp, forall_eq, forall_const, cond_true, cond_false, decide_true, decide_false, true_imp_iff, implies_true, Int.cast_ofNat_Int, forall_eq']
  simp only [↓EVP0, EVQ0, EVQ1, EVQ2, EVQ3, EVQ4, EVA, EVK, EVFS, ↓reduceIte, Nat.reduceEqDiff, Nat.reduceAdd, Nat.reduceSub, Nat.reduceMul, Nat.reduceLT, Nat.reduceLeDiff, reduceCtorEq, Int.reduceToNat, Int.reduceLT, Int.reduceLE, Int.reduceAdd, Int.reduceSub, Int.reduceMul, Int.reduceNeg, Int.reduceEq, Nat.reduceMod, forall_eq_or_imp, forall_eq, forall_const, cond_true, cond_false, decide_true, decide_false, true_imp_iff, implies_true, Int.cast_ofNat_Int, forall_eq']
  refine callK_mut s1 ?_
  simp only [↓EVP0, EVQ0, EVQ1, EVQ2, EVQ3, EVQ4, EVA, EVK, EVFS, ↓reduceIte, Nat.reduceEqDiff, Nat.reduceAdd, Nat.reduceSub, Nat.reduceMul, Nat.reduceLT, Nat.reduceLeDiff, reduceCtorEq, Int.reduceToNat, Int.reduceLT, Int.reduceLE, Int.reduceAdd, Int.reduceSub, Int.reduceMul, Int.reduceNeg, Int.reduceEq, Nat.reduceMod, forall_eq_or_imp, forall_eq, forall_const, cond_true, cond_false, decide_true, decide_false, true_imp_iff, implies_true, Int.cast_ofNat_Int, forall_eq']
  refine callK_mut s2 ?_
  simp only [↓EVP0, EVQ0, EVQ1, EVQ2, EVQ3, EVQ4, EVA, EVK, EVFS, ↓reduceIte, Nat.reduceEqDiff, Nat.reduceAdd, Nat.reduceSub, Nat.reduceMul, Nat.reduceLT, Nat.reduceLeDiff, reduceCtorEq, Int.reduceToNat, Int.reduceLT, Int.reduceLE, Int.reduceAdd, Int.reduceSub, Int.reduceMul, Int.reduceNeg, Int.reduceEq, Nat.reduceMod, forall_eq_or_imp, forall_eq, forall_const, cond_true, cond_false, decide_true, decide_false, true_imp_iff, implies_true, Int.cast_ofNat_Int, forall_eq']
  unfold finH
  simp only [↓EVP0, EVQ0, EVQ1, EVQ2, EVQ3, EVQ4, EVA, EVK, EVFS, ↓reduceIte, Nat.reduceEqDiff, Nat.reduceAdd, Nat.reduceSub, Nat.reduceMul, Nat.reduceLT, Nat.reduceLeDiff, reduceCtorEq, Int.reduceToNat, Int.reduceLT, Int.reduceLE, Int.reduceAdd, Int.reduceSub, Int.reduceMul, Int.reduceNeg, Int.reduceEq, Nat.reduceMod, forall_eq_or_imp, forall_eq, forall_const, cond_true, cond_false, decide_true, decide_false, true_imp_iff, implies_true, Int.cast_ofNat_Int, forall_eq']
theorem lc_line_new {h : LH} {kb vb : Nat} (hkb : kb < h.n) (hb : h.f kb = (vb, .tbox 113 [.sc (.pointer none), .nsl]))
    (ws : List ByteArray) (hN : ws.length ≤ 1000) (h0 : 0 < (lineW ws).length) (hroom : (lineW ws).length ≤ 1000000) :
    LCall Tryd.prog 60 [txsV ws, .ptr kb vb 0 0 0] h (.tup []) (bldS (bldN h kb vb (u8I (lineW ws))) kb vb h.n 1 (u8I (lineB ws))) := by
  have j1 := ev_joinW ws hN (by omega)
  have s1 := lc_ws_new hkb hb ⟨(lineW ws).toArray⟩ (by simpa [ByteArray.size] using h0) (by simp [ByteArray.size]; omega)
  have e1 : strI ⟨(lineW ws).toArray⟩ = u8I (lineW ws) := by rw [strI_u8]
  rw [e1] at s1
  have s2 := lc_wb_row (h := bldN h kb vb (u8I (lineW ws))) (kr := h.n) (vr := 0) (by rw [bldN_n]; omega) bldN_kb (by rw [bldN_n]; omega) (bldN_kr hkb) (by omega) 10 (by rw [u8I_len]; exact hroom)
  rw [show u8I (lineW ws) ++ [10] = u8I (lineB ws) by unfold lineB; rw [u8I_app]; rfl] at s2
  unfold txsV at *
  refine lcall_of_lwpH Tryd.func60 comp60 (show 2 ≤ Tryd.f60.ntmps by decide) ?_
  unfold cf60 rf60
  simp only [↓EVP0, EVQ0, EVQ1, EVQ2, EVQ3, EVQ4, EVA, EVK, EVFS, ↓reduceIte, Nat.reduceEqDiff, Nat.reduceAdd, Nat.reduceSub, Nat.reduceMul, Nat.reduceLT, Nat.reduceLeDiff, reduceCtorEq, Int.reduceToNat, Int.reduceLT, Int.reduceLE, Int.reduceAdd, Int.reduceSub, Int.reduceMul, Int.reduceNeg, Int.reduceEq, Nat.reduceMod, forall_eq_or_imp, forall_eq, forall_const, cond_true, cond_false, decide_true, decide_false, true_imp_iff, implies_true, Int.cast_ofNat_Int, forall_eq']
  refine callK_ro (j1) ?_ ?_
  · simp only [↓EVP0, EVQ0, EVQ1, EVQ2, EVQ3, EVQ4, EVA, EVK, EVFS, ↓reduceIte, Nat.reduceEqDiff, Nat.reduceAdd, Nat.reduceSub, Nat.reduceMul, Nat.reduceLT, Nat.reduceLeDiff, reduceCtorEq, Int.reduceToNat, Int.reduceLT, Int.reduceLE, Int.reduceAdd, Int.reduceSub, Int.reduceMul, Int.reduceNeg, Int.reduceEq, Nat.reduceMod, forall_eq_or_imp, forall_eq, forall_const, cond_true, cond_false, decide_true, decide_false, true_imp_iff, implies_true, Int.cast_ofNat_Int, forall_eq']
  simp only [↓EVP0, EVQ0, EVQ1, EVQ2, EVQ3, EVQ4, EVA, EVK, EVFS, ↓reduceIte, Nat.reduceEqDiff, Nat.reduceAdd, Nat.reduceSub, Nat.reduceMul, Nat.reduceLT, Nat.reduceLeDiff, reduceCtorEq, Int.reduceToNat, Int.reduceLT, Int.reduceLE, Int.reduceAdd, Int.reduceSub, Int.reduceMul, Int.reduceNeg, Int.reduceEq, Nat.reduceMod, forall_eq_or_imp, forall_eq, forall_const, cond_true, cond_false, decide_true, decide_false, true_imp_iff, implies_true, Int.cast_ofNat_Int, forall_eq']
  refine callK_mut s1 ?_
  simp only [↓EVP0, EVQ0, EVQ1, EVQ2, EVQ3, EVQ4, EVA, EVK, EVFS, ↓reduceIte, Nat.reduceEqDiff, Nat.reduceAdd, Nat.reduceSub, Nat.reduceMul, Nat.reduceLT, Nat.reduceLeDiff, reduceCtorEq, Int.reduceToNat, Int.reduceLT, Int.reduceLE, Int.reduceAdd, Int.reduceSub, Int.reduceMul, Int.reduceNeg, Int.reduceEq, Nat.reduceMod, forall_eq_or_imp, forall_eq, forall_const, cond_true, cond_false, decide_true, decide_false, true_imp_iff, implies_true, Int.cast_ofNat_Int, forall_eq']
  refine callK_mut s2 ?_
  simp only [↓EVP0, EVQ0, EVQ1, EVQ2, EVQ3, EVQ4, EVA, EVK, EVFS, ↓reduceIte, Nat.reduceEqDiff, Nat.reduceAdd, Nat.reduceSub, Nat.reduceMul, Nat.reduceLT, Nat.reduceLeDiff, reduceCtorEq, Int.reduceToNat, Int.reduceLT, Int.reduceLE, Int.reduceAdd, Int.reduceSub, Int.reduceMul, Int.reduceNeg, Int.reduceEq, Nat.reduceMod, forall_eq_or_imp, forall_eq, forall_const, cond_true, cond_false, decide_true, decide_false, true_imp_iff, implies_true, Int.cast_ofNat_Int, forall_eq']
  unfold finH
  simp only [↓EVP0, EVQ0, EVQ1, EVQ2, EVQ3, EVQ4, EVA, EVK, EVFS, ↓reduceIte, Nat.reduceEqDiff, Nat.reduceAdd, Nat.reduceSub, Nat.reduceMul, Nat.reduceLT, Nat.reduceLeDiff, reduceCtorEq, Int.reduceToNat, Int.reduceLT, Int.reduceLE, Int.reduceAdd, Int.reduceSub, Int.reduceMul, Int.reduceNeg, Int.reduceEq, Nat.reduceMod, forall_eq_or_imp, forall_eq, forall_const, cond_true, cond_false, decide_true, decide_false, true_imp_iff, implies_true, Int.cast_ofNat_Int, forall_eq']
theorem lwp_frzO {P : Program} {s : LS} {h : LH} {nb : Nat} {a b : LC} {K : LS → LH → Prop} {E : Nat → LS → LH → Prop} {T : LS → LH → Prop} (D : List Nat) (t : Nat) (v : LV)
    (h1 : lwp P nb a (fun s h => (roTo2 h (s t) v ∧ hd2 D h (s t)) ∧ lwp P nb b K E T (upd s t v) (killH h D)) E T s h) : @lwpJ P nb a b ⟨K, E, T⟩ s h :=
  lwp_frz D [(t, v)] (lwp_mono_k (c := a) h1 fun _ _ ⟨⟨h2, h3⟩, h4⟩ => ⟨⟨h2, h3, trivial⟩, h4⟩)
def itS (x : Int) : ByteArray := ⟨(Lib.itoa x).toArray⟩
theorem itS_len {x : Int} (h : In64 x) : (itS x).data.toList.length ≤ 21 := by
  show (Lib.itoa x).toArray.toList.length ≤ 21
  simpa using Lib.itoa_length_le x h.1 h.2
theorem itS_pos {x : Int} : 1 ≤ (itS x).data.toList.length := by
  show 1 ≤ (Lib.itoa x).length
  unfold Lib.itoa
  split
  · simp
  · rw [Lib.decDigits_length]
    exact Lib.nDigits_pos _
def wRoutes : ByteArray := ⟨#[114, 111, 117, 116, 101, 115]⟩
def wdsR (r : List Int) : List ByteArray := r.map itS
def rowsT (t : Tb) : List (List Int) := (t.map fun r => [r.1, r.2]).flatten
def txtR (t : Tb) (m : Nat) : List UInt8 := lineB [wRoutes, itS t.length] ++ (((rowsT t).take m).map fun r => lineB (wdsR r)).flatten
theorem lineW_one (a : ByteArray) : lineW [a] = a.data.toList := by simp [lineW, Lib.join, List.intercalate]
theorem lineW_cons (a b : ByteArray) (r : List ByteArray) : lineW (a :: b :: r) = a.data.toList ++ ([32] ++ lineW (b :: r)) := by simp [lineW, Lib.join, List.intercalate]
theorem lineW_len : ∀ (r : List Int), (∀ x, x ∈ r → In64 x) → (lineW (wdsR r)).length ≤ r.length * 22
  | [], _ => by simp [lineW, wdsR, Lib.join, List.intercalate]
  | [x], h => by
    have := itS_len (h x (by simp))
    show (lineW [itS x]).length ≤ _
    rw [lineW_one]
    show (itS x).data.toList.length ≤ 1 * 22
    omega
  | x :: y :: r, h => by
    have h1 := itS_len (h x (by simp))
    have h2 := lineW_len (y :: r) (fun z hz => h z (by simp [hz]))
    show (lineW (itS x :: itS y :: r.map itS)).length ≤ _
    rw [lineW_cons, List.length_append, List.length_append]
    have : (lineW (itS y :: r.map itS)).length ≤ (y :: r).length * 22 := h2
    simp only [List.length_cons, List.length_nil] at this ⊢; omega
theorem lineW_pos {r : List Int} (h : r ≠ []) : 0 < (lineW (wdsR r)).length := by
  match r, h with
  | [x], _ =>
    have := itS_pos (x := x)
    show 0 < (lineW [itS x]).length
    rw [lineW_one]; omega
  | x :: y :: r, _ =>
    have := itS_pos (x := x)
    show 0 < (lineW (itS x :: itS y :: r.map itS)).length
    rw [lineW_cons, List.length_append]; omega
theorem mem_getD19 {r : List Int} {k : Nat} (h : k < r.length) : r.getD k 0 ∈ r := by
  rw [List.getD_eq_getElem?_getD, List.getElem?_eq_getElem h]; exact List.getElem_mem h
structure TbOk (t : Tb) : Prop where
  n : t.length ≤ 16
  len : ∀ r, r ∈ t → r.1.length = t.length ∧ r.2.length = t.length
  num : ∀ r, r ∈ t → (∀ x, x ∈ r.1 → -2 ≤ x ∧ x < 32) ∧ ∀ x, x ∈ r.2 → -2 ≤ x ∧ x < 32
def wF (r : List Int) : Nat → Nat → List LV
  | 0 => fun _ => [.sc (.string ⟨#[]⟩)]
  | k + 1 => fun i => if i < k then wF r k i else [.sc (.string (itS (r.getD k 0)))]
theorem wF_get (r : List Int) : ∀ {k i : Nat}, i < k → wF r k i = [.sc (.string (itS (r.getD i 0)))]
  | k + 1, i, h => by
    unfold wF
    by_cases e : i < k
    · rw [if_pos e]; exact wF_get r e
    · rw [if_neg e, show i = k by omega]
theorem rowsT_len : ∀ t : Tb, (rowsT t).length = 2 * t.length
  | [] => rfl
  | r :: t => by
    have := rowsT_len t
    show (r.1 :: r.2 :: rowsT t).length = _
    simp only [List.length_cons, this]; omega
theorem rowsT_get : ∀ (t : Tb) (u : Nat), u < t.length → (rowsT t).getD (2 * u) [] = (t.getD u ([], [])).1 ∧ (rowsT t).getD (2 * u + 1) [] = (t.getD u ([], [])).2
  | r :: t, 0, _ => ⟨rfl, rfl⟩
  | r :: t, u + 1, h => rowsT_get t u (by simpa using h)
theorem take_flat {α : Type} (d : α) (g : α → List UInt8) {l : List α} {i : Nat} (h : i < l.length) : ((l.take (i + 1)).map g).flatten = ((l.take i).map g).flatten ++ g (l.getD i d) := by
  rw [List.take_succ_eq_append_getElem h, List.map_append, List.flatten_append, List.getD_eq_getElem?_getD, List.getElem?_eq_getElem h]
  simp
theorem txtR_0 {t : Tb} {u : Nat} (h : u < t.length) : txtR t (2 * u + 1) = txtR t (2 * u) ++ lineB (wdsR (t.getD u ([], [])).1) := by
  unfold txtR
  rw [take_flat [] _ (show 2 * u < (rowsT t).length by rw [rowsT_len]; omega), (rowsT_get t u h).1, List.append_assoc]
theorem txtR_1 {t : Tb} {u : Nat} (h : u < t.length) : txtR t (2 * u + 1 + 1) = txtR t (2 * u + 1) ++ lineB (wdsR (t.getD u ([], [])).2) := by
  unfold txtR
  rw [take_flat [] _ (show 2 * u + 1 < (rowsT t).length by rw [rowsT_len]; omega), (rowsT_get t u h).2, List.append_assoc]
theorem lineB_len (ws : List ByteArray) : (lineB ws).length = (lineW ws).length + 1 := by simp [lineB]
theorem row_line {t : Tb} (ht : TbOk t) {r : List Int} (hr : r ∈ rowsT t) : r.length = t.length ∧ (lineW (wdsR r)).length ≤ 400 := by
  unfold rowsT at hr
  rw [List.mem_flatten] at hr
  obtain ⟨q, hq, hr⟩ := hr
  rw [List.mem_map] at hq
  obtain ⟨x, hx, rfl⟩ := hq
  have h1 := ht.len x hx
  have h2 := ht.num x hx
  have h16 := ht.n
  simp only [List.mem_cons, List.not_mem_nil, or_false] at hr
  rcases hr with rfl | rfl
  · have := lineW_len x.1 (fun y hy => by have := h2.1 y hy; unfold In64; omega)
    exact ⟨h1.1, by omega⟩
  · have := lineW_len x.2 (fun y hy => by have := h2.2 y hy; unfold In64; omega)
    exact ⟨h1.2, by omega⟩
theorem flat_le19 {l : List (List Int)} (h : ∀ r, r ∈ l → (lineW (wdsR r)).length ≤ 400) : ∀ (i : Nat), ((l.take i).map fun r => lineB (wdsR r)).flatten.length ≤ i * 401 := by
  induction l with
  | nil => intro i; simp
  | cons x r ih =>
    intro i
    cases i with
    | zero => simp
    | succ i =>
      have := ih (fun y hy => h y (by simp [hy])) i
      have h2 := h x (by simp)
      rw [List.take_succ_cons, List.map_cons, List.flatten_cons, List.length_append, lineB_len, Nat.succ_mul]
      omega
theorem txtR_len {t : Tb} (ht : TbOk t) (hw : (lineW [wRoutes, itS t.length]).length ≤ 100) (m : Nat) : (txtR t m).length ≤ 101 + m * 401 := by
  unfold txtR
  rw [List.length_append, lineB_len]
  have := flat_le19 (fun r hr => (row_line ht hr).2) m
  omega
theorem ev_format19 (t : Tb) (ht : TbOk t) : Ev Tryd.prog 31 [tabV t] (.tup [.sc (.string ⟨(txtR t (2 * t.length)).toArray⟩), .sc (.int .i64 0)]) := by
  unfold tabV
  have hi := fun x (hx : In64 x) => ev_itoaA x hx
  refine ev_fn Tryd.func31 comp31 (show 1 ≤ Tryd.f31.ntmps by decide) ?_; unfold cf31 rf31; simp only [↓EVP0, EVQ0, EVQ1, EVQ2, EVQ3, EVQ4, EVA, EVK, EVFS, ↓reduceIte, Nat.reduceEqDiff, Nat.reduceAdd, Nat.reduceSub, Nat.reduceMul, Nat.reduceLT, Nat.reduceLeDiff, reduceCtorEq, Int.reduceToNat, Int.reduceLT, Int.reduceLE, Int.reduceAdd, Int.reduceSub, Int.reduceMul, Int.reduceNeg, Int.reduceEq, Nat.reduceMod, forall_eq_or_imp, forall_eq, forall_const, cond_true, cond_false, decide_true, decide_false, true_imp_iff, implies_true, Int.cast_ofNat_Int, forall_eq']
  intro _
  have h16 := ht.n
  refine ⟨fun hg => ?_, fun hg => ?_⟩
  · have := of_decide_eq_true hg; omega
  have hin := hi t.length (by unfold In64; omega)
  refine callK_ro (hin) ?_ ?_
  · simp only [↓EVP0, EVQ0, EVQ1, EVQ2, EVQ3, EVQ4, EVA, EVK, EVFS, ↓reduceIte, Nat.reduceEqDiff, Nat.reduceAdd, Nat.reduceSub, Nat.reduceMul, Nat.reduceLT, Nat.reduceLeDiff, reduceCtorEq, Int.reduceToNat, Int.reduceLT, Int.reduceLE, Int.reduceAdd, Int.reduceSub, Int.reduceMul, Int.reduceNeg, Int.reduceEq, Nat.reduceMod, forall_eq_or_imp, forall_eq, forall_const, cond_true, cond_false, decide_true, decide_false, true_imp_iff, implies_true, Int.cast_ofNat_Int, forall_eq']
  simp only [↓EVP0, EVQ0, EVQ1, EVQ2, EVQ3, EVQ4, EVA, EVK, EVFS, ↓reduceIte, Nat.reduceEqDiff, Nat.reduceAdd, Nat.reduceSub, Nat.reduceMul, Nat.reduceLT, Nat.reduceLeDiff, reduceCtorEq, Int.reduceToNat, Int.reduceLT, Int.reduceLE, Int.reduceAdd, Int.reduceSub, Int.reduceMul, Int.reduceNeg, Int.reduceEq, Nat.reduceMod, forall_eq_or_imp, forall_eq, forall_const, cond_true, cond_false, decide_true, decide_false, true_imp_iff, implies_true, Int.cast_ofNat_Int, forall_eq']
  have hw0 : lineW [wRoutes, itS t.length] = wRoutes.data.toList ++ ([32] ++ (itS t.length).data.toList) := by rw [lineW_cons, lineW_one]
  have hil := itS_len (x := t.length) (by unfold In64; omega)
  have e6 : wRoutes.data.toList.length = 6 := rfl
  have hwl : 0 < (lineW [wRoutes, itS t.length]).length ∧ (lineW [wRoutes, itS t.length]).length ≤ 100 := by
    rw [hw0, List.length_append, List.length_append, e6, List.length_singleton]; omega
  refine ⟨txsF [wRoutes, itS t.length], fun i hi => ?_, by kernel_rfl, callK_mut (lc_line_new (h := mkH _) (kb := 1) (vb := 0) (by simp [mkH]) rfl [wRoutes, itS t.length] (by simp) hwl.1 (by omega)) ?_⟩
  · obtain rfl | rfl : i = 0 ∨ i = 1 := by omega
    all_goals rfl
  unfold bldS bldN
  simp only [↓EVP0, EVQ0, EVQ1, EVQ2, EVQ3, EVQ4, EVA, EVK, EVFS, ↓reduceIte, Nat.reduceEqDiff, Nat.reduceAdd, Nat.reduceSub, Nat.reduceMul, Nat.reduceLT, Nat.reduceLeDiff, reduceCtorEq, Int.reduceToNat, Int.reduceLT, Int.reduceLE, Int.reduceAdd, Int.reduceSub, Int.reduceMul, Int.reduceNeg, Int.reduceEq, Nat.reduceMod, forall_eq_or_imp, forall_eq, forall_const, cond_true, cond_false, decide_true, decide_false, true_imp_iff, implies_true, Int.cast_ofNat_Int, forall_eq']
  intro _
  refine lwp_for (α := Nat) t.length (fun _ _ => True) (fun u _ => [(4, .sc (.int .i64 t.length)), (5, .ptr 1 0 0 0 0), (6, .fn 60 [.ptr 1 0 0 0 0]), (26, .rsl 2 t.length (tabF t)), (27, .sc (.int .i64 t.length)), (28, .sc (.int .i64 u))])
    (fun u v => [(0, .box [.rsl 2 t.length (tabF t)]), (0, .tbox 113 [.ptr 1 0 0 0 0, .sl 2 v 1 0 (txtR t (2 * u)).length]), (v, .byt 5 (u8I (txtR t (2 * u))))]) 1 trivial ?_ (fun _ _ => Nat.zero_le _) ?_
  · simp only [↓EVP0, EVQ0, EVQ1, EVQ2, EVQ3, EVQ4, EVA, EVK, EVFS, ↓reduceIte, Nat.reduceEqDiff, Nat.reduceAdd, Nat.reduceSub, Nat.reduceMul, Nat.reduceLT, Nat.reduceLeDiff, reduceCtorEq, Int.reduceToNat, Int.reduceLT, Int.reduceLE, Int.reduceAdd, Int.reduceSub, Int.reduceMul, Int.reduceNeg, Int.reduceEq, Nat.reduceMod, forall_eq_or_imp, forall_eq, forall_const, cond_true, cond_false, decide_true, decide_false, true_imp_iff, implies_true, Int.cast_ofNat_Int, forall_eq']
    have e0 : txtR t 0 = lineB [wRoutes, itS t.length] := by unfold txtR; simp
    rw [e0, u8I_len]
    exact ⟨rfl, rfl⟩
  intro u v hu _
  unfold lb31_2
  simp only [↓EVP0, EVQ0, EVQ1, EVQ2, EVQ3, EVQ4, EVA, EVK, EVFS, ↓reduceIte, Nat.reduceEqDiff, Nat.reduceAdd, Nat.reduceSub, Nat.reduceMul, Nat.reduceLT, Nat.reduceLeDiff, reduceCtorEq, Int.reduceToNat, Int.reduceLT, Int.reduceLE, Int.reduceAdd, Int.reduceSub, Int.reduceMul, Int.reduceNeg, Int.reduceEq, Nat.reduceMod, forall_eq_or_imp, forall_eq, forall_const, cond_true, cond_false, decide_true, decide_false, true_imp_iff, implies_true, Int.cast_ofNat_Int, forall_eq']
  refine ⟨fun hg2 => ?_, fun hg2 => ?_⟩
  rotate_left
  · have hu2 : u = t.length := by have := of_decide_eq_false hg2; omega
    subst hu2
    have hne : txtR t (2 * t.length) ≠ [] := by
      unfold txtR lineB
      intro h
      simp at h
    refine callK_mut (lc_str_row (h := mkH _) (kb := 1) (vb := 0) (kr := 2) (vr := v) (by simp [mkH]) rfl (by simp [mkH]) rfl hne) ?_
    simp only [↓EVP0, EVQ0, EVQ1, EVQ2, EVQ3, EVQ4, EVA, EVK, EVFS, ↓reduceIte, Nat.reduceEqDiff, Nat.reduceAdd, Nat.reduceSub, Nat.reduceMul, Nat.reduceLT, Nat.reduceLeDiff, reduceCtorEq, Int.reduceToNat, Int.reduceLT, Int.reduceLE, Int.reduceAdd, Int.reduceSub, Int.reduceMul, Int.reduceNeg, Int.reduceEq, Nat.reduceMod, forall_eq_or_imp, forall_eq, forall_const, cond_true, cond_false, decide_true, decide_false, true_imp_iff, implies_true, Int.cast_ofNat_Int, forall_eq']
  have hu2 : u < t.length := by have := of_decide_eq_true hg2; omega
  have hm : t.getD u ([], []) ∈ t := by rw [List.getD_eq_getElem?_getD, List.getElem?_eq_getElem hu2]; exact List.getElem_mem hu2
  have hr0 := And.intro (ht.len _ hm).1 (ht.num _ hm).1
  have hr1 := And.intro (ht.len _ hm).2 (ht.num _ hm).2
  refine ⟨⟨by omega, by omega⟩, ?_⟩
  refine lwp_for (α := Nat) 2 (fun _ _ => True) (fun k _ => [(4, .sc (.int .i64 t.length)), (5, .ptr 1 0 0 0 0), (6, .fn 60 [.ptr 1 0 0 0 0]), (26, .rsl 2 t.length (tabF t)), (27, .sc (.int .i64 t.length)), (28, .sc (.int .i64 u)), (32, .agg [.rsl 1 (t.getD u ([], [])).1.length (intsF (t.getD u ([], [])).1), .rsl 1 (t.getD u ([], [])).2.length (intsF (t.getD u ([], [])).2)]), (33, .sc (.int .i64 k))])
    (fun k v => [(0, .box [.rsl 2 t.length (tabF t)]), (0, .tbox 113 [.ptr 1 0 0 0 0, .sl 2 v 1 0 (txtR t (2 * u + k)).length]), (v, .byt 5 (u8I (txtR t (2 * u + k))))]) v trivial ?_ (fun _ _ => Nat.zero_le _) ?_
  · simp only [↓EVP0, EVQ0, EVQ1, EVQ2, EVQ3, EVQ4, EVA, EVK, EVFS, ↓reduceIte, Nat.reduceEqDiff, Nat.reduceAdd, Nat.reduceSub, Nat.reduceMul, Nat.reduceLT, Nat.reduceLeDiff, reduceCtorEq, Int.reduceToNat, Int.reduceLT, Int.reduceLE, Int.reduceAdd, Int.reduceSub, Int.reduceMul, Int.reduceNeg, Int.reduceEq, Nat.reduceMod, forall_eq_or_imp, forall_eq, forall_const, cond_true, cond_false, decide_true, decide_false, true_imp_iff, implies_true, Int.cast_ofNat_Int, forall_eq']
  intro ph v hph _
  have h3c : ph = 0 ∨ ph = 1 ∨ ph = 2 := by omega
  rcases h3c with rfl | rfl | rfl
  · unfold lb31_1
    simp only [↓EVP0, EVQ0, EVQ1, EVQ2, EVQ3, EVQ4, EVA, EVK, EVFS, ↓reduceIte, Nat.reduceEqDiff, Nat.reduceAdd, Nat.reduceSub, Nat.reduceMul, Nat.reduceLT, Nat.reduceLeDiff, reduceCtorEq, Int.reduceToNat, Int.reduceLT, Int.reduceLE, Int.reduceAdd, Int.reduceSub, Int.reduceMul, Int.reduceNeg, Int.reduceEq, Nat.reduceMod, forall_eq_or_imp, forall_eq, forall_const, cond_true, cond_false, decide_true, decide_false, true_imp_iff, implies_true, Int.cast_ofNat_Int, forall_eq']
    have hrn := hr0.1
    have hnum := hr0.2
    intro _
    refine ⟨fun h => ?_, fun _ => ⟨by unfold mksC; omega, ?_⟩⟩
    · rw [hrn, decide_eq_true rfl] at h; simp at h
    refine lwp_frzO [3] 11 (.rsl 1 (wdsR (t.getD u ([], [])).1).length (txsF (wdsR (t.getD u ([], [])).1))) ?_
    simp only [↓EVP0, EVQ0, EVQ1, EVQ2, EVQ3, EVQ4, EVA, EVK, EVFS, ↓reduceIte, Nat.reduceEqDiff, Nat.reduceAdd, Nat.reduceSub, Nat.reduceMul, Nat.reduceLT, Nat.reduceLeDiff, reduceCtorEq, Int.reduceToNat, Int.reduceLT, Int.reduceLE, Int.reduceAdd, Int.reduceSub, Int.reduceMul, Int.reduceNeg, Int.reduceEq, Nat.reduceMod, forall_eq_or_imp, forall_eq, forall_const, cond_true, cond_false, decide_true, decide_false, true_imp_iff, implies_true, Int.cast_ofNat_Int, forall_eq']
    intro _
    refine lwp_for (α := Unit) (t.getD u ([], [])).1.length (fun _ _ => True) (fun k _ => [(4, .sc (.int .i64 t.length)), (5, .ptr 1 0 0 0 0), (6, .fn 60 [.ptr 1 0 0 0 0]), (11, .sl 3 k 1 0 k), (26, .rsl 2 t.length (tabF t)), (27, .sc (.int .i64 t.length)), (28, .sc (.int .i64 u)), (32, .agg [.rsl 1 (t.getD u ([], [])).1.length (intsF (t.getD u ([], [])).1), .rsl 1 (t.getD u ([], [])).2.length (intsF (t.getD u ([], [])).2)]), (33, .sc (.int .i64 0)), (42, .rsl 1 (t.getD u ([], [])).1.length (intsF (t.getD u ([], [])).1)), (43, .sc (.int .i64 (t.getD u ([], [])).1.length)), (44, .sc (.int .i64 k))])
      (fun k _ => [(0, .box [.rsl 2 t.length (tabF t)]), (0, .tbox 113 [.ptr 1 0 0 0 0, .sl 2 v 1 0 (txtR t (2 * u)).length]), (v, .byt 5 (u8I (txtR t (2 * u)))), (k, .row 1 k (wF (t.getD u ([], [])).1 k))]) () trivial ?_ (fun _ _ => Nat.zero_le _) ?_
    · simp only [↓EVP0, EVQ0, EVQ1, EVQ2, EVQ3, EVQ4, EVA, EVK, EVFS, ↓reduceIte, Nat.reduceEqDiff, Nat.reduceAdd, Nat.reduceSub, Nat.reduceMul, Nat.reduceLT, Nat.reduceLeDiff, reduceCtorEq, Int.reduceToNat, Int.reduceLT, Int.reduceLE, Int.reduceAdd, Int.reduceSub, Int.reduceMul, Int.reduceNeg, Int.reduceEq, Nat.reduceMod, forall_eq_or_imp, forall_eq, forall_const, cond_true, cond_false, decide_true, decide_false, true_imp_iff, implies_true, Int.cast_ofNat_Int, forall_eq']
      exact ⟨rfl, fun i hi => absurd hi (Nat.not_lt_zero _)⟩
    intro k _ hk _
    unfold lb31_0
    simp only [↓EVP0, EVQ0, EVQ1, EVQ2, EVQ3, EVQ4, EVA, EVK, EVFS, ↓reduceIte, Nat.reduceEqDiff, Nat.reduceAdd, Nat.reduceSub, Nat.reduceMul, Nat.reduceLT, Nat.reduceLeDiff, reduceCtorEq, Int.reduceToNat, Int.reduceLT, Int.reduceLE, Int.reduceAdd, Int.reduceSub, Int.reduceMul, Int.reduceNeg, Int.reduceEq, Nat.reduceMod, forall_eq_or_imp, forall_eq, forall_const, cond_true, cond_false, decide_true, decide_false, true_imp_iff, implies_true, Int.cast_ofNat_Int, forall_eq']
    refine ⟨fun hg5 => ?_, fun hg5 => ?_⟩
    · have hk2 : k < (t.getD u ([], [])).1.length := by have := of_decide_eq_true hg5; omega
      have hmem : (t.getD u ([], [])).1.getD k 0 ∈ (t.getD u ([], [])).1 := mem_getD19 hk2
      have hx := hnum _ hmem
      have hit := hi ((t.getD u ([], [])).1.getD k 0) (by unfold In64; omega)
      refine ⟨⟨by omega, by omega⟩, fun h => ?_, fun _ => ?_⟩
      · rw [decide_eq_false (show ¬ (t.getD u ([], [])).1.getD k 0 < -2 by omega), decide_eq_false (show ¬ (32 : Int) ≤ (t.getD u ([], [])).1.getD k 0 by omega)] at h; simp at h
      refine callK_ro (hit) ?_ ?_
      · simp only [↓EVP0, EVQ0, EVQ1, EVQ2, EVQ3, EVQ4, EVA, EVK, EVFS, ↓reduceIte, Nat.reduceEqDiff, Nat.reduceAdd, Nat.reduceSub, Nat.reduceMul, Nat.reduceLT, Nat.reduceLeDiff, reduceCtorEq, Int.reduceToNat, Int.reduceLT, Int.reduceLE, Int.reduceAdd, Int.reduceSub, Int.reduceMul, Int.reduceNeg, Int.reduceEq, Nat.reduceMod, forall_eq_or_imp, forall_eq, forall_const, cond_true, cond_false, decide_true, decide_false, true_imp_iff, implies_true, Int.cast_ofNat_Int, forall_eq']
      simp only [↓EVP0, EVQ0, EVQ1, EVQ2, EVQ3, EVQ4, EVA, EVK, EVFS, ↓reduceIte, Nat.reduceEqDiff, Nat.reduceAdd, Nat.reduceSub, Nat.reduceMul, Nat.reduceLT, Nat.reduceLeDiff, reduceCtorEq, Int.reduceToNat, Int.reduceLT, Int.reduceLE, Int.reduceAdd, Int.reduceSub, Int.reduceMul, Int.reduceNeg, Int.reduceEq, Nat.reduceMod, forall_eq_or_imp, forall_eq, forall_const, cond_true, cond_false, decide_true, decide_false, true_imp_iff, implies_true, Int.cast_ofNat_Int, forall_eq']
      refine ⟨fun _ => [.sc (.string (itS ((t.getD u ([], [])).1.getD k 0)))], fun i hi => by rw [show i = 0 by omega]; rfl, ?_⟩
      exact ⟨⟨Nat.le_refl _, fun i hi => by rw [wF_get _ hi]; rfl⟩, by unfold appRoom; omega, by unfold In64; omega, hk2, (), rfl, fun i hi => by rw [wF_get _ hi]; exact ⟨trivial, trivial⟩⟩
    · have hk2 : k = (t.getD u ([], [])).1.length := by have := of_decide_eq_false hg5; omega
      subst hk2
      have hne : (t.getD u ([], [])).1 ≠ [] := by intro h; rw [h] at hrn; simp at hrn; omega
      have hll := lineW_len (t.getD u ([], [])).1 (fun y hy => by have := hnum y hy; unfold In64; omega)
      have htl := txtR_len ht (by omega) (2 * u)
      have hwl : (wdsR (t.getD u ([], [])).1).length = (t.getD u ([], [])).1.length := by unfold wdsR; simp
      refine ⟨⟨hwl, ⟨Nat.le_refl _, fun i hi => by rw [wF_get _ hi]; rfl⟩, fun i hi => ?_⟩, by kernel_rfl, callK_mut (lc_line_row (h := mkH _) (kb := 1) (vb := 0) (kr := 2) (vr := v) (l := txtR t (2 * u)) (by simp [mkH]) rfl (by simp [mkH]) rfl (by omega) (wdsR (t.getD u ([], [])).1) (by rw [hwl]; omega) (lineW_pos hne) (by omega)) ?_⟩
      · rw [wF_get _ hi]
        refine ⟨?_, trivial, trivial⟩
        show [LV.sc (.string (itS ((t.getD u ([], [])).1.getD i 0)))] = [LV.sc (.string ((wdsR (t.getD u ([], [])).1).getD i ⟨#[]⟩))]
        unfold wdsR
        rw [List.getD_eq_getElem?_getD (l := (t.getD u ([], [])).1.map itS), List.getElem?_map, List.getD_eq_getElem?_getD, List.getElem?_eq_getElem hi]; rfl
      unfold bldS
      simp only [↓EVP0, EVQ0, EVQ1, EVQ2, EVQ3, EVQ4, EVA, EVK, EVFS, ↓reduceIte, Nat.reduceEqDiff, Nat.reduceAdd, Nat.reduceSub, Nat.reduceMul, Nat.reduceLT, Nat.reduceLeDiff, reduceCtorEq, Int.reduceToNat, Int.reduceLT, Int.reduceLE, Int.reduceAdd, Int.reduceSub, Int.reduceMul, Int.reduceNeg, Int.reduceEq, Nat.reduceMod, forall_eq_or_imp, forall_eq, forall_const, cond_true, cond_false, decide_true, decide_false, true_imp_iff, implies_true, Int.cast_ofNat_Int, forall_eq']
      exact ⟨by unfold In64; omega, v + 1 + 1, by rw [← txtR_0 hu2, u8I_len], rfl, by rw [txtR_0 hu2]⟩
  · unfold lb31_1
    simp only [↓EVP0, EVQ0, EVQ1, EVQ2, EVQ3, EVQ4, EVA, EVK, EVFS, ↓reduceIte, Nat.reduceEqDiff, Nat.reduceAdd, Nat.reduceSub, Nat.reduceMul, Nat.reduceLT, Nat.reduceLeDiff, reduceCtorEq, Int.reduceToNat, Int.reduceLT, Int.reduceLE, Int.reduceAdd, Int.reduceSub, Int.reduceMul, Int.reduceNeg, Int.reduceEq, Nat.reduceMod, forall_eq_or_imp, forall_eq, forall_const, cond_true, cond_false, decide_true, decide_false, true_imp_iff, implies_true, Int.cast_ofNat_Int, forall_eq']
    have hrn := hr1.1
    have hnum := hr1.2
    intro _
    refine ⟨fun h => ?_, fun _ => ⟨by unfold mksC; omega, ?_⟩⟩
    · rw [hrn, decide_eq_true rfl] at h; simp at h
    refine lwp_frzO [3] 11 (.rsl 1 (wdsR (t.getD u ([], [])).2).length (txsF (wdsR (t.getD u ([], [])).2))) ?_
    simp only [↓EVP0, EVQ0, EVQ1, EVQ2, EVQ3, EVQ4, EVA, EVK, EVFS, ↓reduceIte, Nat.reduceEqDiff, Nat.reduceAdd, Nat.reduceSub, Nat.reduceMul, Nat.reduceLT, Nat.reduceLeDiff, reduceCtorEq, Int.reduceToNat, Int.reduceLT, Int.reduceLE, Int.reduceAdd, Int.reduceSub, Int.reduceMul, Int.reduceNeg, Int.reduceEq, Nat.reduceMod, forall_eq_or_imp, forall_eq, forall_const, cond_true, cond_false, decide_true, decide_false, true_imp_iff, implies_true, Int.cast_ofNat_Int, forall_eq']
    intro _
    refine lwp_for (α := Unit) (t.getD u ([], [])).2.length (fun _ _ => True) (fun k _ => [(4, .sc (.int .i64 t.length)), (5, .ptr 1 0 0 0 0), (6, .fn 60 [.ptr 1 0 0 0 0]), (11, .sl 3 k 1 0 k), (26, .rsl 2 t.length (tabF t)), (27, .sc (.int .i64 t.length)), (28, .sc (.int .i64 u)), (32, .agg [.rsl 1 (t.getD u ([], [])).1.length (intsF (t.getD u ([], [])).1), .rsl 1 (t.getD u ([], [])).2.length (intsF (t.getD u ([], [])).2)]), (33, .sc (.int .i64 1)), (42, .rsl 1 (t.getD u ([], [])).2.length (intsF (t.getD u ([], [])).2)), (43, .sc (.int .i64 (t.getD u ([], [])).2.length)), (44, .sc (.int .i64 k))])
      (fun k _ => [(0, .box [.rsl 2 t.length (tabF t)]), (0, .tbox 113 [.ptr 1 0 0 0 0, .sl 2 v 1 0 (txtR t (2 * u + 1)).length]), (v, .byt 5 (u8I (txtR t (2 * u + 1)))), (k, .row 1 k (wF (t.getD u ([], [])).2 k))]) () trivial ?_ (fun _ _ => Nat.zero_le _) ?_
    · simp only [↓EVP0, EVQ0, EVQ1, EVQ2, EVQ3, EVQ4, EVA, EVK, EVFS, ↓reduceIte, Nat.reduceEqDiff, Nat.reduceAdd, Nat.reduceSub, Nat.reduceMul, Nat.reduceLT, Nat.reduceLeDiff, reduceCtorEq, Int.reduceToNat, Int.reduceLT, Int.reduceLE, Int.reduceAdd, Int.reduceSub, Int.reduceMul, Int.reduceNeg, Int.reduceEq, Nat.reduceMod, forall_eq_or_imp, forall_eq, forall_const, cond_true, cond_false, decide_true, decide_false, true_imp_iff, implies_true, Int.cast_ofNat_Int, forall_eq']
      exact ⟨rfl, fun i hi => absurd hi (Nat.not_lt_zero _)⟩
    intro k _ hk _
    unfold lb31_0
    simp only [↓EVP0, EVQ0, EVQ1, EVQ2, EVQ3, EVQ4, EVA, EVK, EVFS, ↓reduceIte, Nat.reduceEqDiff, Nat.reduceAdd, Nat.reduceSub, Nat.reduceMul, Nat.reduceLT, Nat.reduceLeDiff, reduceCtorEq, Int.reduceToNat, Int.reduceLT, Int.reduceLE, Int.reduceAdd, Int.reduceSub, Int.reduceMul, Int.reduceNeg, Int.reduceEq, Nat.reduceMod, forall_eq_or_imp, forall_eq, forall_const, cond_true, cond_false, decide_true, decide_false, true_imp_iff, implies_true, Int.cast_ofNat_Int, forall_eq']
    refine ⟨fun hg5 => ?_, fun hg5 => ?_⟩
    · have hk2 : k < (t.getD u ([], [])).2.length := by have := of_decide_eq_true hg5; omega
      have hmem : (t.getD u ([], [])).2.getD k 0 ∈ (t.getD u ([], [])).2 := mem_getD19 hk2
      have hx := hnum _ hmem
      have hit := hi ((t.getD u ([], [])).2.getD k 0) (by unfold In64; omega)
      refine ⟨⟨by omega, by omega⟩, fun h => ?_, fun _ => ?_⟩
      · rw [decide_eq_false (show ¬ (t.getD u ([], [])).2.getD k 0 < -2 by omega), decide_eq_false (show ¬ (32 : Int) ≤ (t.getD u ([], [])).2.getD k 0 by omega)] at h; simp at h
      refine callK_ro (hit) ?_ ?_
      · simp only [↓EVP0, EVQ0, EVQ1, EVQ2, EVQ3, EVQ4, EVA, EVK, EVFS, ↓reduceIte, Nat.reduceEqDiff, Nat.reduceAdd, Nat.reduceSub, Nat.reduceMul, Nat.reduceLT, Nat.reduceLeDiff, reduceCtorEq, Int.reduceToNat, Int.reduceLT, Int.reduceLE, Int.reduceAdd, Int.reduceSub, Int.reduceMul, Int.reduceNeg, Int.reduceEq, Nat.reduceMod, forall_eq_or_imp, forall_eq, forall_const, cond_true, cond_false, decide_true, decide_false, true_imp_iff, implies_true, Int.cast_ofNat_Int, forall_eq']
      simp only [↓EVP0, EVQ0, EVQ1, EVQ2, EVQ3, EVQ4, EVA, EVK, EVFS, ↓reduceIte, Nat.reduceEqDiff, Nat.reduceAdd, Nat.reduceSub, Nat.reduceMul, Nat.reduceLT, Nat.reduceLeDiff, reduceCtorEq, Int.reduceToNat, Int.reduceLT, Int.reduceLE, Int.reduceAdd, Int.reduceSub, Int.reduceMul, Int.reduceNeg, Int.reduceEq, Nat.reduceMod, forall_eq_or_imp, forall_eq, forall_const, cond_true, cond_false, decide_true, decide_false, true_imp_iff, implies_true, Int.cast_ofNat_Int, forall_eq']
      refine ⟨fun _ => [.sc (.string (itS ((t.getD u ([], [])).2.getD k 0)))], fun i hi => by rw [show i = 0 by omega]; rfl, ?_⟩
      exact ⟨⟨Nat.le_refl _, fun i hi => by rw [wF_get _ hi]; rfl⟩, by unfold appRoom; omega, by unfold In64; omega, hk2, (), rfl, fun i hi => by rw [wF_get _ hi]; exact ⟨trivial, trivial⟩⟩
    · have hk2 : k = (t.getD u ([], [])).2.length := by have := of_decide_eq_false hg5; omega
      subst hk2
      have hne : (t.getD u ([], [])).2 ≠ [] := by intro h; rw [h] at hrn; simp at hrn; omega
      have hll := lineW_len (t.getD u ([], [])).2 (fun y hy => by have := hnum y hy; unfold In64; omega)
      have htl := txtR_len ht (by omega) (2 * u + 1)
      have hwl : (wdsR (t.getD u ([], [])).2).length = (t.getD u ([], [])).2.length := by unfold wdsR; simp
      refine ⟨⟨hwl, ⟨Nat.le_refl _, fun i hi => by rw [wF_get _ hi]; rfl⟩, fun i hi => ?_⟩, by kernel_rfl, callK_mut (lc_line_row (h := mkH _) (kb := 1) (vb := 0) (kr := 2) (vr := v) (l := txtR t (2 * u + 1)) (by simp [mkH]) rfl (by simp [mkH]) rfl (by omega) (wdsR (t.getD u ([], [])).2) (by rw [hwl]; omega) (lineW_pos hne) (by omega)) ?_⟩
      · rw [wF_get _ hi]
        refine ⟨?_, trivial, trivial⟩
        show [LV.sc (.string (itS ((t.getD u ([], [])).2.getD i 0)))] = [LV.sc (.string ((wdsR (t.getD u ([], [])).2).getD i ⟨#[]⟩))]
        unfold wdsR
        rw [List.getD_eq_getElem?_getD (l := (t.getD u ([], [])).2.map itS), List.getElem?_map, List.getD_eq_getElem?_getD, List.getElem?_eq_getElem hi]; rfl
      unfold bldS
      simp only [↓EVP0, EVQ0, EVQ1, EVQ2, EVQ3, EVQ4, EVA, EVK, EVFS, ↓reduceIte, Nat.reduceEqDiff, Nat.reduceAdd, Nat.reduceSub, Nat.reduceMul, Nat.reduceLT, Nat.reduceLeDiff, reduceCtorEq, Int.reduceToNat, Int.reduceLT, Int.reduceLE, Int.reduceAdd, Int.reduceSub, Int.reduceMul, Int.reduceNeg, Int.reduceEq, Nat.reduceMod, forall_eq_or_imp, forall_eq, forall_const, cond_true, cond_false, decide_true, decide_false, true_imp_iff, implies_true, Int.cast_ofNat_Int, forall_eq']
      have e9 := txtR_1 hu2
      rw [show 2 * u + 1 + 1 = 2 * u + 2 by omega] at e9
      exact ⟨by unfold In64; omega, v + 1 + 1, by rw [← e9, u8I_len], rfl, by rw [e9]⟩
  · unfold lb31_1
    simp only [↓EVP0, EVQ0, EVQ1, EVQ2, EVQ3, EVQ4, EVA, EVK, EVFS, ↓reduceIte, Nat.reduceEqDiff, Nat.reduceAdd, Nat.reduceSub, Nat.reduceMul, Nat.reduceLT, Nat.reduceLeDiff, reduceCtorEq, Int.reduceToNat, Int.reduceLT, Int.reduceLE, Int.reduceAdd, Int.reduceSub, Int.reduceMul, Int.reduceNeg, Int.reduceEq, Nat.reduceMod, forall_eq_or_imp, forall_eq, forall_const, cond_true, cond_false, decide_true, decide_false, true_imp_iff, implies_true, Int.cast_ofNat_Int, forall_eq']
    exact ⟨by unfold In64; omega, hu2, v, rfl, rfl, rfl⟩
end Go.Proofs.YtcdepkflghcjpaaDoor
namespace Go.Proofs.YtcdepkflghcjpaaDoor
set_option linter.unusedSimpArgs false
set_option linter.unusedVariables false
open Go.RowKit
set_option maxRecDepth 20000

def twoPl : Pl := ⟨[⟨⟨#[97]⟩, true, 1⟩, ⟨⟨#[98]⟩, true, 1⟩], [⟨0, 0, 1, 0, 1, 1⟩]⟩
theorem ev_two : Ev Tryd.prog 36 [] (.tup [plV twoPl, .agg [intsV [0, 1]]]) := by
  unfold plV twoPl intsV
  refine ev_fn Tryd.func36 comp36 (show 0 ≤ Tryd.f36.ntmps by decide) ?_; unfold cf36 rf36; simp only [↓EVP0, EVQ0, EVQ1, EVQ2, EVQ3, EVQ4, EVA, EVK, EVFS, ↓reduceIte, Nat.reduceEqDiff, Nat.reduceAdd, Nat.reduceSub, Nat.reduceMul, Nat.reduceLT, Nat.reduceLeDiff, reduceCtorEq, Int.reduceToNat, Int.reduceLT, Int.reduceLE, Int.reduceAdd, Int.reduceSub, Int.reduceMul, Int.reduceNeg, Int.reduceEq, Nat.reduceMod, forall_eq_or_imp, forall_eq, forall_const, cond_true, cond_false, decide_true, decide_false, true_imp_iff, implies_true, Int.cast_ofNat_Int, forall_eq']
  have h2 : ∀ i : Nat, i < 2 → i = 0 ∨ i = 1 := fun i hi => by omega
  refine ⟨⟨fun i hi => ?_, fun i hi => ?_⟩, fun i hi => ?_, fun i hi => ?_⟩
  · rcases h2 i hi with rfl | rfl <;> rfl
  · rcases h2 i hi with rfl | rfl <;> exact ⟨rfl, trivial, trivial, trivial, trivial⟩
  · obtain rfl : i = 0 := by omega
    rfl
  · obtain rfl : i = 0 := by omega
    exact ⟨rfl, trivial, trivial, trivial, trivial, trivial, trivial, trivial⟩
theorem two_ok : PlOk twoPl := by
  refine ⟨fun n hn => ?_, fun c hc => ?_⟩
  · simp only [twoPl, List.mem_cons, List.not_mem_nil, or_false] at hn
    rcases hn with rfl | rfl <;> unfold In64 <;> refine ⟨by decide, by decide, by decide⟩
  · simp only [twoPl, List.mem_cons, List.not_mem_nil, or_false] at hc
    unfold In64
    subst hc; simp
theorem two_make : makeE twoPl [0, 1] [true] = ([([-2, 0], [-2, 0]), ([0, -2], [-1, -2])], 0) := by kernel_rfl
def twoT : Tb := [([-2, 0], [-2, 0]), ([0, -2], [-1, -2])]
theorem two_tb : TbOk twoT := by
  refine ⟨by decide, fun r hr => ?_, fun r hr => ?_⟩
  · simp only [twoT, List.mem_cons, List.not_mem_nil, or_false] at hr
    rcases hr with rfl | rfl <;> decide
  · simp only [twoT, List.mem_cons, List.not_mem_nil, or_false] at hr
    rcases hr with rfl | rfl <;> decide
theorem two_txt : (⟨(txtR twoT (2 * twoT.length)).toArray⟩ : ByteArray) = ⟨#[114, 111, 117, 116, 101, 115, 32, 50, 10, 45, 50, 32, 48, 10, 45, 50, 32, 48, 10, 48, 32, 45, 50, 10, 45, 49, 32, 45, 50, 10]⟩ := by kernel_rfl
theorem ev_awake19 : Ev Tryd.prog 11 [] (.sc (.bool true)) := by
  have h1 := ev_two
  have h2 := ev_make twoPl two_ok [0, 1] [true] (by decide)
  rw [two_make] at h2
  have h3 := ev_format19 twoT two_tb
  rw [two_txt] at h3
  unfold plV boolsV intsV tabV at *
  refine ev_fn Tryd.func11 comp11 (show 0 ≤ Tryd.f11.ntmps by decide) ?_; unfold cf11 rf11; simp only [↓EVP0, EVQ0, EVQ1, EVQ2, EVQ3, EVQ4, EVA, EVK, EVFS, ↓reduceIte, Nat.reduceEqDiff, Nat.reduceAdd, Nat.reduceSub, Nat.reduceMul, Nat.reduceLT, Nat.reduceLeDiff, reduceCtorEq, Int.reduceToNat, Int.reduceLT, Int.reduceLE, Int.reduceAdd, Int.reduceSub, Int.reduceMul, Int.reduceNeg, Int.reduceEq, Nat.reduceMod, forall_eq_or_imp, forall_eq, forall_const, cond_true, cond_false, decide_true, decide_false, true_imp_iff, implies_true, Int.cast_ofNat_Int, forall_eq']
  refine callK_ro (h1) ?_ ?_
  · simp only [↓EVP0, EVQ0, EVQ1, EVQ2, EVQ3, EVQ4, EVA, EVK, EVFS, ↓reduceIte, Nat.reduceEqDiff, Nat.reduceAdd, Nat.reduceSub, Nat.reduceMul, Nat.reduceLT, Nat.reduceLeDiff, reduceCtorEq, Int.reduceToNat, Int.reduceLT, Int.reduceLE, Int.reduceAdd, Int.reduceSub, Int.reduceMul, Int.reduceNeg, Int.reduceEq, Nat.reduceMod, forall_eq_or_imp, forall_eq, forall_const, cond_true, cond_false, decide_true, decide_false, true_imp_iff, implies_true, Int.cast_ofNat_Int, forall_eq']
  simp only [↓EVP0, EVQ0, EVQ1, EVQ2, EVQ3, EVQ4, EVA, EVK, EVFS, ↓reduceIte, Nat.reduceEqDiff, Nat.reduceAdd, Nat.reduceSub, Nat.reduceMul, Nat.reduceLT, Nat.reduceLeDiff, reduceCtorEq, Int.reduceToNat, Int.reduceLT, Int.reduceLE, Int.reduceAdd, Int.reduceSub, Int.reduceMul, Int.reduceNeg, Int.reduceEq, Nat.reduceMod, forall_eq_or_imp, forall_eq, forall_const, cond_true, cond_false, decide_true, decide_false, true_imp_iff, implies_true, Int.cast_ofNat_Int, forall_eq']
  refine callK_kill [2] h2 ?_ ?_ ?_
  · simp only [↓EVP0, EVQ0, EVQ1, EVQ2, EVQ3, EVQ4, EVA, EVK, EVFS, ↓reduceIte, Nat.reduceEqDiff, Nat.reduceAdd, Nat.reduceSub, Nat.reduceMul, Nat.reduceLT, Nat.reduceLeDiff, reduceCtorEq, Int.reduceToNat, Int.reduceLT, Int.reduceLE, Int.reduceAdd, Int.reduceSub, Int.reduceMul, Int.reduceNeg, Int.reduceEq, Nat.reduceMod, forall_eq_or_imp, forall_eq, forall_const, cond_true, cond_false, decide_true, decide_false, true_imp_iff, implies_true, Int.cast_ofNat_Int, forall_eq']
    intro i hi
    obtain rfl : i = 0 := by omega
    exact ⟨rfl, trivial, trivial⟩
  · simp only [↓EVP0, EVQ0, EVQ1, EVQ2, EVQ3, EVQ4, EVA, EVK, EVFS, ↓reduceIte, Nat.reduceEqDiff, Nat.reduceAdd, Nat.reduceSub, Nat.reduceMul, Nat.reduceLT, Nat.reduceLeDiff, reduceCtorEq, Int.reduceToNat, Int.reduceLT, Int.reduceLE, Int.reduceAdd, Int.reduceSub, Int.reduceMul, Int.reduceNeg, Int.reduceEq, Nat.reduceMod, forall_eq_or_imp, forall_eq, forall_const, cond_true, cond_false, decide_true, decide_false, true_imp_iff, implies_true, Int.cast_ofNat_Int, forall_eq']
  simp only [↓EVP0, EVQ0, EVQ1, EVQ2, EVQ3, EVQ4, EVA, EVK, EVFS, ↓reduceIte, Nat.reduceEqDiff, Nat.reduceAdd, Nat.reduceSub, Nat.reduceMul, Nat.reduceLT, Nat.reduceLeDiff, reduceCtorEq, Int.reduceToNat, Int.reduceLT, Int.reduceLE, Int.reduceAdd, Int.reduceSub, Int.reduceMul, Int.reduceNeg, Int.reduceEq, Nat.reduceMod, forall_eq_or_imp, forall_eq, forall_const, cond_true, cond_false, decide_true, decide_false, true_imp_iff, implies_true, Int.cast_ofNat_Int, forall_eq']
  refine callK_ro (h3) ?_ ?_
  · simp only [↓EVP0, EVQ0, EVQ1, EVQ2, EVQ3, EVQ4, EVA, EVK, EVFS, ↓reduceIte, Nat.reduceEqDiff, Nat.reduceAdd, Nat.reduceSub, Nat.reduceMul, Nat.reduceLT, Nat.reduceLeDiff, reduceCtorEq, Int.reduceToNat, Int.reduceLT, Int.reduceLE, Int.reduceAdd, Int.reduceSub, Int.reduceMul, Int.reduceNeg, Int.reduceEq, Nat.reduceMod, forall_eq_or_imp, forall_eq, forall_const, cond_true, cond_false, decide_true, decide_false, true_imp_iff, implies_true, Int.cast_ofNat_Int, forall_eq']
  simp only [↓EVP0, EVQ0, EVQ1, EVQ2, EVQ3, EVQ4, EVA, EVK, EVFS, ↓reduceIte, Nat.reduceEqDiff, Nat.reduceAdd, Nat.reduceSub, Nat.reduceMul, Nat.reduceLT, Nat.reduceLeDiff, reduceCtorEq, Int.reduceToNat, Int.reduceLT, Int.reduceLE, Int.reduceAdd, Int.reduceSub, Int.reduceMul, Int.reduceNeg, Int.reduceEq, Nat.reduceMod, forall_eq_or_imp, forall_eq, forall_const, cond_true, cond_false, decide_true, decide_false, true_imp_iff, implies_true, Int.cast_ofNat_Int, forall_eq']
end Go.Proofs.YtcdepkflghcjpaaDoor
namespace Go.Proofs.YtcdepkflghcjpaaDoor
set_option linter.unusedSimpArgs false
set_option linter.unusedVariables false
open Go.RowKit
set_option maxRecDepth 20000

end Go.Proofs.YtcdepkflghcjpaaDoor
namespace Go.Proofs.YtcdepkflghcjpaaDoor
set_option linter.unusedSimpArgs false
set_option linter.unusedVariables false
open Go.RowKit
set_option maxRecDepth 100000

theorem fit_str {d : Nat} {t : TypeId} (ht : Tryd.prog.underlying t = some .string) {ls : List LV} (h : fitT Tryd.prog d t ls) : ∃ s : ByteArray, ls = [.sc (.string s)] ∧ s.size ≤ maxLen := by
  cases d with
  | zero => exact h.elim
  | succ d => unfold fitT at h; rw [ht] at h; exact h
theorem rsl_congr {z n : Nat} {f g : Nat → List LV} (h : ∀ i, i < n → f i = g i) {R : RO} {v : Value} (hr : Ro R (.rsl z n f) v) : Ro R (.rsl z n g) v := by
  cases hr with
  | rsl _ _ _ a cap b o w hc hm ha hf hcell hv hp =>
    exact .rsl _ _ _ a cap b o w hc hm ha (fun i hi => by rw [← h i hi]; exact hf i hi) hcell (fun i j c hi hj => hv i j c hi (by rw [h i hi]; exact hj)) hp
def Im (a b : LV) : Prop := ∀ R v, Ro R a v → Ro R b v
theorem Im.refl (a : LV) : Im a a := fun _ _ h => h
theorem Im.rsl {z n : Nat} {f g : Nat → List LV} (h : ∀ i, i < n → f i = g i) : Im (.rsl z n f) (.rsl z n g) := fun _ _ hr => rsl_congr h hr
theorem Im.agg {xs bs : List LV} (hl : xs.length = bs.length) (h : ∀ (i : Nat) (b : LV), bs[i]? = some b → ∃ a, xs[i]? = some a ∧ Im a b) : Im (.agg xs) (.agg bs) := by
  intro R v hr
  cases hr with
  | agg _ vs hs hc hp =>
    refine .agg _ _ (by omega) (fun i b hb => ?_) hp
    obtain ⟨a, ha, him⟩ := h i b hb
    exact him _ _ (hc i a ha)
def ImL : List LV → List LV → Prop
  | [], [] => True
  | a :: xs, b :: bs => Im a b ∧ ImL xs bs
  | _, _ => False
theorem ImL_get : ∀ {xs bs : List LV}, ImL xs bs → xs.length = bs.length ∧ ∀ (i : Nat) (b : LV), bs[i]? = some b → ∃ a, xs[i]? = some a ∧ Im a b
  | [], [], _ => ⟨rfl, fun i b h => by simp at h⟩
  | a :: xs, b :: bs, h => by
    obtain ⟨h1, h2⟩ := ImL_get h.2
    refine ⟨by simp [h1], fun i c hc => ?_⟩
    cases i with
    | zero => simp at hc; subst hc; exact ⟨a, rfl, h.1⟩
    | succ i => obtain ⟨x, hx, hx2⟩ := h2 i c (by simpa using hc); exact ⟨x, by simpa using hx, hx2⟩
  | [], _ :: _, h => h.elim
  | _ :: _, [], h => h.elim
theorem ev_im {P : Program} {f : FuncId} {xs bs : List LV} {r : LV} (h : ImL xs bs) (he : Ev P f bs r) : Ev P f xs r := by
  intro R w vs hR hgl hs ha
  obtain ⟨h1, h2⟩ := ImL_get h
  refine he R w vs hR hgl (by omega) (fun i b hb => ?_)
  obtain ⟨a, ha', him⟩ := h2 i b hb
  exact him _ _ (ha i a ha')

theorem arg_cell {t : TypeId} (hs : structT Tryd.prog t = false) {lv : LV} (h : fitA Tryd.prog t lv) : fitT Tryd.prog 20 t [lv] := by
  obtain ⟨ls, h1, ⟨h2, _⟩ | ⟨_, rfl⟩⟩ := h
  · rw [hs] at h2; simp at h2
  · exact h1
theorem all1 {t : TypeId} {ts : List TypeId} {l : List LV} (h : fitAll Tryd.prog (t :: ts) l) : ∃ a r, l = a :: r ∧ fitA Tryd.prog t a ∧ fitAll Tryd.prog ts r := by
  cases l with
  | nil => exact h.elim
  | cons a r => exact ⟨a, r, rfl, h.1, h.2⟩
theorem all0 {l : List LV} (h : fitAll Tryd.prog [] l) : l = [] := by
  cases l with
  | nil => rfl
  | cons a r => exact h.elim
theorem Tryd.own' : ownKnob Tryd.prog.godebug = none := by kernel_rfl
theorem Tryd.laidOut' : laidOutB Tryd.prog = true := by kernel_rfl
end Go.Proofs.YtcdepkflghcjpaaDoor
namespace Go.Proofs.YtcdepkflghcjpaaDoor
set_option linter.unusedSimpArgs false
set_option linter.unusedVariables false
open Go.RowKit
set_option maxRecDepth 100000

end Go.Proofs.YtcdepkflghcjpaaDoor
namespace Go.Proofs.YtcdepkflghcjpaaDoor
open Go.RowKit Go.ChangeShapes

theorem star19 : "*" ++ "errors.errorString" = "*errors.errorString" := by decide
theorem row19 (u : TypeId) (h : Tryd.prog.typeName? 3 u = some "*errors.errorString") : u = 198 :=
  typeName_ptr_named (nm := "errors.errorString") (by rw [star19]; kernel_rfl) (by kernel_rfl) (by decide) u (by rw [star19]; exact h)
theorem ifc_of_laid {n : String} {text : List UInt8} {r : List (String × DataW Unit)} {W : World} {g : Nat}
    (h : laidMet Tryd.prog ((n, .iface "*errors.errorString" (.ptr (.agg [.lit (.string text)]))) :: r) W) (hg : Tryd.prog.globalNamed n = some g) (ht : (Tryd.prog.globals[g]?).map (·.type) = some 116) : IfcAt W g := by
  obtain ⟨a, s, hv, _, _, _⟩ := laid_sentinel h hg ht Tryd.underlying116 row19 Tryd.underlying198 Tryd.underlying200 rfl rfl Tryd.underlying9 (by kernel_rfl) (by kernel_rfl)
  exact ⟨_, World.var?_cell hg hv 0, .inr ⟨_, _, rfl⟩⟩
theorem gx_of {a b c : String × DataW Unit} {rest : List (String × DataW Unit)} {W : World} (h : laidMetH Tryd.prog (a :: b :: ("internal/strconv.uint64pow10", Rows.laid_internal_strconv_uint64pow10) :: c :: ("strconv.ErrRange", Rows.laid_strconv_ErrRange) :: ("strconv.ErrSyntax", Rows.laid_strconv_ErrSyntax) :: rest) W)
    (hp : ((a :: b :: ("internal/strconv.uint64pow10", Rows.laid_internal_strconv_uint64pow10) :: c :: ("strconv.ErrRange", Rows.laid_strconv_ErrRange) :: ("strconv.ErrSyntax", Rows.laid_strconv_ErrSyntax) :: rest).all fun x => x.2.handleName?.isNone) = true) (hs : W.ShapedOpen Tryd.prog) : GX W := by
  rw [MakeChecks.laidMetH_plain _ _ _ hp] at h
  have h2 := (h.tail).tail
  have h3 := (h2.tail).tail
  refine ⟨Lib.tabIs_of_head (g := 1) (t := 169) (e := 158) (n := 20) (by kernel_rfl) (by kernel_rfl) (by kernel_rfl) (by kernel_rfl) (by kernel_rfl) (by kernel_rfl) (show laidMet Tryd.prog (("internal/strconv.uint64pow10", Lib.tabData .u64 Lib.pow10Tab) :: c :: ("strconv.ErrRange", Rows.laid_strconv_ErrRange) :: ("strconv.ErrSyntax", Rows.laid_strconv_ErrSyntax) :: rest) W from h2),
    cell_of_shapedOpen_int (zero := #[.int .i64 0]) (t := 3) hs (of_decide_eq_true (by kernel_rfl)) (by kernel_rfl) rfl (by kernel_rfl) (by kernel_rfl) Tryd.underlying3, ?_, ?_⟩
  · exact ifc_of_laid h3.tail (by kernel_rfl) (by kernel_rfl)
  · exact ifc_of_laid h3 (by kernel_rfl) (by kernel_rfl)
end Go.Proofs.YtcdepkflghcjpaaDoor
