/- DERIVED: THE SHELF's CONTRACTS AT THIS DUMP, IN PLAIN WORDS (tools/lay-plain.mjs out of 'TrydShelf.lean', which tools/lay-shelf.mjs wrote): THE SAME DECLARATIONS UNDER THE SAME NAMES: 'import', 'namespace', 'open', 'def', 'theorem' AND NOTHING ELSE: no command of the shelf's: FOR A HAND-IN. Each laying: the table of numbers ('.._ren') and one theorem, a field a fact of the dump's own or the kernel's comparison; each contract: ONE APPLICATION.; strings.Builder: what its methods do to a variable and its bytes; strings.Builder: WriteString, WriteByte; strings.Builder: String; Texts: what the library's functions hand back; strconv.Itoa of any int, where the table of the powers of ten is as listed; The text of a plan: lines, and what writes them; The text of a plan: what Format hands back; Neighbors and cables at a node; Connected parts: what the program's steps come to; The reference's Valid of chapter 14; Chapter 14's example; The arguments of the statements about plans, opened; Texts: strings.Cut, strings.Split, where the world's variables are as listed; Texts in plain terms: cutting and splitting at a byte; numbers of a table; Texts in plain terms: splitting at a byte; Texts of numbers, in plain terms: a number's text is read as that number; Chapter 14: the number that a word is, in plain terms; Chapter 14: how a plan's text is read, in plain terms; Chapter 14: a plan's text is read as the plan, in plain terms; Chapter 14: reading a number and a node; Chapter 14: reading a cab. Conditions: none. -/
import Derived.Test.YtchpncmmlhfemaaDoorME
import Derived.Shelf.Strings.Builder1
import Derived.Shelf.Strings.Builder2
import Derived.Shelf.Strings.OnBuilder
import Derived.Shelf.Strings.BuilderF
import Derived.Shelf.Strings.BuilderK
import Derived.Shelf.Utf8.RuneCount
import Derived.Shelf.Strings.Builder2Cap
import Derived.Shelf.Strconv.Itoa0
import Derived.Shelf.Strconv.Itoa1
import Derived.Shelf.LaysM
import Derived.Shelf.Strconv.Itoa2
import Derived.Shelf.Strconv.Itoa3
import Derived.Shelf.Strings.Search1
import Derived.Shelf.Strings.Search2
import Derived.Shelf.Strings.Search3
import Derived.Shelf.Strings.Cut
import Derived.Shelf.Strings.Count
import Derived.Shelf.Strings.Shaped
import Derived.Shelf.Strings.Prefix
import Derived.Shelf.Strings.Split
import Derived.Shelf.Strings.SplitShaped
import Derived.Shelf.Unicode.Decode
import Derived.Shelf.Strings.RuneCount
import Derived.Shelf.Strings.Explode
import Derived.Shelf.Unicode.DecodeSlow
import Derived.Shelf.Unicode.DecodeAny
import Derived.Shelf.Strings.BuilderCap
import Derived.Shelf.Slices.Equal
import Derived.Shelf.Slices.Empties2
import Derived.Ground.SlgnProg
import Derived.Shelf.SlicesE.Clone
import Derived.Test.YtchpncmmlhfemaaDoorProg
import Derived.Lib.UnsafeStr
import Derived.Lib.Builder
import Derived.Shelf.RegionOpenPlain
import Derived.Lib.ItoaLen
import Derived.Lib.AtoiAll
namespace Go.Proofs
open Go.Shelf
def Tryd.lays169_ren : Go.Shelf.Ren := ⟨fun | 169 => 49 | n => n, fun | 70 => 67 | 9 => 9 | 0 => 0 | 72 => 70 | 37 => 68 | 127 => 94 | 3 => 3 | 5 => 5 | n => n, fun | n => n⟩
theorem Tryd.lays169 : Go.Proofs.Lays.n169 Tryd.prog Tryd.lays169_ren := {
  mixed := by kernel_rfl
  f169 := Tryd.func49.trans (congrArg some (by kernel_rfl))
  t0 := Tryd.underlying0
  a0 := Tryd.isAgg0
  z0 := Tryd.sizeOf0
  v0 := Tryd.zeroValue0
  t3 := Tryd.underlying3
  a3 := Tryd.isAgg3
  z3 := Tryd.sizeOf3
  v3 := Tryd.zeroValue3
  t9 := Tryd.underlying9
  a9 := Tryd.isAgg9
  z9 := Tryd.sizeOf9
  v9 := Tryd.zeroValue9
  t37 := Tryd.underlying68
  a37 := Tryd.isAgg68
  z37 := Tryd.sizeOf68
  v37 := Tryd.zeroValue68
  t70 := Tryd.underlying67
  a70 := Tryd.isAgg67
  z70 := Tryd.sizeOf67
  v70 := Tryd.zeroValue67
  t72 := Tryd.underlying70
  a72 := Tryd.isAgg70
  z72 := Tryd.sizeOf70
  v72 := Tryd.zeroValue70
  t127 := Tryd.underlying94
  a127 := Tryd.isAgg94
  z127 := Tryd.sizeOf94
  v127 := Tryd.zeroValue94 }
theorem Tryd.Builder_Extra_169 : Builder.Extra Tryd.prog Tryd.lays169_ren := {
  sizeBuilder := by kernel_rfl
  liesBuilder := by kernel_rfl
  t5 := Tryd.underlying5
  a5 := Tryd.isAgg5
  z5 := Tryd.sizeOf5
  v5 := Tryd.zeroValue5
  infoByte := by kernel_rfl
  cellsByte := by kernel_rfl
  sizeByte := by kernel_rfl
  neB5 := by decide }
def Tryd.lays156_ren : Go.Shelf.Ren := ⟨fun | 156 => 33 | 165 => 55 | 166 => 46 | 169 => 49 | 240 => 59 | 241 => 68 | 276 => 69 | 277 => 77 | n => n, fun | 31 => 57 | 9 => 9 | 3 => 3 | 4 => 4 | 0 => 0 | 20 => 20 | 72 => 70 | 76 => 73 | 70 => 67 | 37 => 68 | 75 => 72 | 127 => 94 | 164 => 103 | 5 => 5 | 80 => 78 | n => n, fun | n => n⟩
theorem Tryd.lays156 : Go.Proofs.Lays.n156 Tryd.prog Tryd.lays156_ren := {
  mixed := by kernel_rfl
  f156 := Tryd.func33.trans (congrArg some (by kernel_rfl))
  f165 := Tryd.func55.trans (congrArg some (by kernel_rfl))
  f166 := Tryd.func46.trans (congrArg some (by kernel_rfl))
  f169 := Tryd.func49.trans (congrArg some (by kernel_rfl))
  f240 := Tryd.func59.trans (congrArg some (by kernel_rfl))
  f241 := Tryd.func68.trans (congrArg some (by kernel_rfl))
  f276 := Tryd.func69.trans (congrArg some (by kernel_rfl))
  f277 := Tryd.func77.trans (congrArg some (by kernel_rfl))
  t0 := Tryd.underlying0
  a0 := Tryd.isAgg0
  z0 := Tryd.sizeOf0
  v0 := Tryd.zeroValue0
  t3 := Tryd.underlying3
  a3 := Tryd.isAgg3
  z3 := Tryd.sizeOf3
  v3 := Tryd.zeroValue3
  t4 := Tryd.underlying4
  a4 := Tryd.isAgg4
  z4 := Tryd.sizeOf4
  v4 := Tryd.zeroValue4
  t9 := Tryd.underlying9
  a9 := Tryd.isAgg9
  z9 := Tryd.sizeOf9
  v9 := Tryd.zeroValue9
  t20 := Tryd.underlying20
  a20 := Tryd.isAgg20
  z20 := Tryd.sizeOf20
  v20 := Tryd.zeroValue20
  t31 := Tryd.underlying57
  a31 := Tryd.isAgg57
  z31 := Tryd.sizeOf57
  v31 := Tryd.zeroValue57
  t37 := Tryd.underlying68
  a37 := Tryd.isAgg68
  z37 := Tryd.sizeOf68
  v37 := Tryd.zeroValue68
  t70 := Tryd.underlying67
  a70 := Tryd.isAgg67
  z70 := Tryd.sizeOf67
  v70 := Tryd.zeroValue67
  t72 := Tryd.underlying70
  a72 := Tryd.isAgg70
  z72 := Tryd.sizeOf70
  v72 := Tryd.zeroValue70
  t75 := Tryd.underlying72
  a75 := Tryd.isAgg72
  z75 := Tryd.sizeOf72
  v75 := Tryd.zeroValue72
  t76 := Tryd.underlying73
  a76 := Tryd.isAgg73
  z76 := Tryd.sizeOf73
  v76 := Tryd.zeroValue73
  t127 := Tryd.underlying94
  a127 := Tryd.isAgg94
  z127 := Tryd.sizeOf94
  v127 := Tryd.zeroValue94
  t164 := Tryd.underlying103
  a164 := Tryd.isAgg103
  z164 := Tryd.sizeOf103
  v164 := Tryd.zeroValue103 }
theorem Tryd.Builder_Extra_156 : Builder.Extra Tryd.prog Tryd.lays156_ren := {
  sizeBuilder := by kernel_rfl
  liesBuilder := by kernel_rfl
  t5 := Tryd.underlying5
  a5 := Tryd.isAgg5
  z5 := Tryd.sizeOf5
  v5 := Tryd.zeroValue5
  infoByte := by kernel_rfl
  cellsByte := by kernel_rfl
  sizeByte := by kernel_rfl
  neB5 := by decide }
open Go.RowKit in
theorem Tryd.strings_Join_none (a : Option Addr) (c : Nat) (sep : ByteArray) (w : World) :
    Calls Tryd.prog 33 #[.slice a 0 c, .string sep] w fun e w' => e = .returned (.string ⟨#[]⟩) ∧ w' = w := Any.strings_Join_none Tryd.lays156 Tryd.Builder_Extra_156 a c sep w
open Go.RowKit in
theorem Tryd.strings_Join (bk o c : Nat) (xs : List ByteArray) (sep : ByteArray) (w : World) (hcells : ∀ (j : Nat) x, xs[j]? = some x → w.cell? ⟨bk, o + j, none⟩ = some (.string x)) (hbk : bk < w.heap.size) (hN : xs.length ≤ 140737488355328) (hcap : xs.length ≤ c) (hlen : (Lib.join (xs.map (·.data.toList)) sep.data.toList).length ≤ 140737488355328) :
    Calls Tryd.prog 33 #[.slice (some ⟨bk, o, none⟩) xs.length c, .string sep] w fun e w' => e = .returned (.string ⟨(Lib.join (xs.map (·.data.toList)) sep.data.toList).toArray⟩) ∧ Below w.heap.size w w' := Any.strings_Join Tryd.lays156 Tryd.Builder_Extra_156 bk o c xs sep w hcells hbk hN hcap hlen
def Tryd.laysM171_ren : Go.Shelf.Ren := ⟨fun | 171 => 48 | 243 => 60 | 246 => 70 | 283 => 78 | 284 => 79 | 285 => 80 | 286 => 81 | 129 => 88 | 317 => 87 | 318 => 89 | 319 => 90 | 320 => 91 | 337 => 94 | 338 => 95 | n => n, fun | 3 => 3 | 9 => 9 | 2 => 2 | 4 => 4 | 171 => 113 | 0 => 0 | 53 => 114 | 37 => 68 | 5 => 5 | 173 => 117 | 212 => 122 | 51 => 123 | 20 => 20 | 213 => 124 | 46 => 120 | 232 => 133 | 233 => 134 | n => n, fun | 17 => 1 | 18 => 4 | 19 => 5 | n => n⟩
theorem Tryd.laysM171 : Go.Proofs.LaysM.n171 Tryd.prog Tryd.laysM171_ren := {
  mixed := by kernel_rfl
  f129 := Tryd.func88.trans (congrArg some (by kernel_rfl))
  f171 := Tryd.func48.trans (congrArg some (by kernel_rfl))
  f243 := Tryd.func60.trans (congrArg some (by kernel_rfl))
  f246 := Tryd.func70.trans (congrArg some (by kernel_rfl))
  f283 := Tryd.func78.trans (congrArg some (by kernel_rfl))
  f284 := Tryd.func79.trans (congrArg some (by kernel_rfl))
  f285 := Tryd.func80.trans (congrArg some (by kernel_rfl))
  f286 := Tryd.func81.trans (congrArg some (by kernel_rfl))
  f317 := Tryd.func87.trans (congrArg some (by kernel_rfl))
  f318 := Tryd.func89.trans (congrArg some (by kernel_rfl))
  f319 := Tryd.func90.trans (congrArg some (by kernel_rfl))
  f320 := Tryd.func91.trans (congrArg some (by kernel_rfl))
  f337 := Tryd.func94.trans (congrArg some (by kernel_rfl))
  f338 := Tryd.func95.trans (congrArg some (by kernel_rfl))
  t0 := Tryd.underlying0
  a0 := Tryd.isAgg0
  z0 := Tryd.sizeOf0
  v0 := Tryd.zeroValue0
  t2 := Tryd.underlying2
  a2 := Tryd.isAgg2
  z2 := Tryd.sizeOf2
  v2 := Tryd.zeroValue2
  t3 := Tryd.underlying3
  a3 := Tryd.isAgg3
  z3 := Tryd.sizeOf3
  v3 := Tryd.zeroValue3
  t4 := Tryd.underlying4
  a4 := Tryd.isAgg4
  z4 := Tryd.sizeOf4
  v4 := Tryd.zeroValue4
  t5 := Tryd.underlying5
  a5 := Tryd.isAgg5
  z5 := Tryd.sizeOf5
  v5 := Tryd.zeroValue5
  t9 := Tryd.underlying9
  a9 := Tryd.isAgg9
  z9 := Tryd.sizeOf9
  v9 := Tryd.zeroValue9
  t20 := Tryd.underlying20
  a20 := Tryd.isAgg20
  z20 := Tryd.sizeOf20
  v20 := Tryd.zeroValue20
  t37 := Tryd.underlying68
  a37 := Tryd.isAgg68
  z37 := Tryd.sizeOf68
  v37 := Tryd.zeroValue68
  t46 := Tryd.underlying120
  a46 := Tryd.isAgg120
  z46 := Tryd.sizeOf120
  v46 := Tryd.zeroValue120
  t51 := Tryd.underlying123
  a51 := Tryd.isAgg123
  z51 := Tryd.sizeOf123
  v51 := Tryd.zeroValue123
  t53 := Tryd.underlying114
  a53 := Tryd.isAgg114
  z53 := Tryd.sizeOf114
  v53 := Tryd.zeroValue114
  t171 := Tryd.underlying113
  a171 := Tryd.isAgg113
  z171 := Tryd.sizeOf113
  v171 := Tryd.zeroValue113
  t173 := Tryd.underlying117
  a173 := Tryd.isAgg117
  z173 := Tryd.sizeOf117
  v173 := Tryd.zeroValue117
  t212 := Tryd.underlying122
  a212 := Tryd.isAgg122
  z212 := Tryd.sizeOf122
  v212 := Tryd.zeroValue122
  t213 := Tryd.underlying124
  a213 := Tryd.isAgg124
  z213 := Tryd.sizeOf124
  t232 := Tryd.underlying133
  a232 := Tryd.isAgg133
  z232 := Tryd.sizeOf133
  v232 := Tryd.zeroValue133
  t233 := Tryd.underlying134
  a233 := Tryd.isAgg134
  z233 := Tryd.sizeOf134
  v233 := Tryd.zeroValue134
  g17 := by kernel_rfl
  g18 := by kernel_rfl
  g19 := by kernel_rfl
  i0 := by kernel_rfl
  i2 := by kernel_rfl
  i3 := by kernel_rfl
  i4 := by kernel_rfl
  i5 := by kernel_rfl
  i9 := by kernel_rfl
  i20 := by kernel_rfl
  i37 := by kernel_rfl
  i46 := by kernel_rfl
  i51 := by kernel_rfl
  i53 := by kernel_rfl
  i171 := by kernel_rfl
  i173 := by kernel_rfl
  i212 := by kernel_rfl
  i232 := by kernel_rfl
  i233 := by kernel_rfl
  m17 := by kernel_rfl
  m18 := by kernel_rfl
  m19 := by kernel_rfl }
open Go.RowKit Go.Sort Go.Lib in
theorem Tryd.strconv_Itoa (n : Int) (h0 : -9223372036854775808 ≤ n) (h1 : n ≤ 9223372036854775807) (w : World) (htab : Lib.TabIs Tryd.prog w "internal/strconv.uint64pow10" .u64 Lib.pow10Tab) :
    Calls Tryd.prog 48 #[.int .i64 n] w fun e w' => e = .returned (.string ⟨(Lib.itoa n).toArray⟩) ∧ ∃ k os, w' = grow (w.drewN k) os := Any.strconv_Itoa Tryd.laysM171 n h0 h1 w htab
def Tryd.lays171_ren : Go.Shelf.Ren := ⟨fun | 171 => 48 | 243 => 60 | 246 => 70 | 283 => 78 | 284 => 79 | 285 => 80 | 286 => 81 | 129 => 88 | 317 => 87 | 318 => 89 | 319 => 90 | 320 => 91 | 337 => 94 | 338 => 95 | n => n, fun | 3 => 3 | 9 => 9 | 2 => 2 | 4 => 4 | 171 => 113 | 0 => 0 | 53 => 114 | 37 => 68 | 5 => 5 | 173 => 117 | 212 => 122 | 51 => 123 | 20 => 20 | 213 => 124 | 46 => 120 | 232 => 133 | 233 => 134 | n => n, fun | 17 => 1 | 18 => 4 | 19 => 5 | n => n⟩
theorem Tryd.lays171 : Go.Proofs.Lays.n171 Tryd.prog Tryd.lays171_ren := {
  mixed := by kernel_rfl
  f129 := Tryd.func88.trans (congrArg some (by kernel_rfl))
  f171 := Tryd.func48.trans (congrArg some (by kernel_rfl))
  f243 := Tryd.func60.trans (congrArg some (by kernel_rfl))
  f246 := Tryd.func70.trans (congrArg some (by kernel_rfl))
  f283 := Tryd.func78.trans (congrArg some (by kernel_rfl))
  f284 := Tryd.func79.trans (congrArg some (by kernel_rfl))
  f285 := Tryd.func80.trans (congrArg some (by kernel_rfl))
  f286 := Tryd.func81.trans (congrArg some (by kernel_rfl))
  f317 := Tryd.func87.trans (congrArg some (by kernel_rfl))
  f318 := Tryd.func89.trans (congrArg some (by kernel_rfl))
  f319 := Tryd.func90.trans (congrArg some (by kernel_rfl))
  f320 := Tryd.func91.trans (congrArg some (by kernel_rfl))
  f337 := Tryd.func94.trans (congrArg some (by kernel_rfl))
  f338 := Tryd.func95.trans (congrArg some (by kernel_rfl))
  t0 := Tryd.underlying0
  a0 := Tryd.isAgg0
  z0 := Tryd.sizeOf0
  v0 := Tryd.zeroValue0
  t2 := Tryd.underlying2
  a2 := Tryd.isAgg2
  z2 := Tryd.sizeOf2
  v2 := Tryd.zeroValue2
  t3 := Tryd.underlying3
  a3 := Tryd.isAgg3
  z3 := Tryd.sizeOf3
  v3 := Tryd.zeroValue3
  t4 := Tryd.underlying4
  a4 := Tryd.isAgg4
  z4 := Tryd.sizeOf4
  v4 := Tryd.zeroValue4
  t5 := Tryd.underlying5
  a5 := Tryd.isAgg5
  z5 := Tryd.sizeOf5
  v5 := Tryd.zeroValue5
  t9 := Tryd.underlying9
  a9 := Tryd.isAgg9
  z9 := Tryd.sizeOf9
  v9 := Tryd.zeroValue9
  t20 := Tryd.underlying20
  a20 := Tryd.isAgg20
  z20 := Tryd.sizeOf20
  v20 := Tryd.zeroValue20
  t37 := Tryd.underlying68
  a37 := Tryd.isAgg68
  z37 := Tryd.sizeOf68
  v37 := Tryd.zeroValue68
  t46 := Tryd.underlying120
  a46 := Tryd.isAgg120
  z46 := Tryd.sizeOf120
  v46 := Tryd.zeroValue120
  t51 := Tryd.underlying123
  a51 := Tryd.isAgg123
  z51 := Tryd.sizeOf123
  v51 := Tryd.zeroValue123
  t53 := Tryd.underlying114
  a53 := Tryd.isAgg114
  z53 := Tryd.sizeOf114
  v53 := Tryd.zeroValue114
  t171 := Tryd.underlying113
  a171 := Tryd.isAgg113
  z171 := Tryd.sizeOf113
  v171 := Tryd.zeroValue113
  t173 := Tryd.underlying117
  a173 := Tryd.isAgg117
  z173 := Tryd.sizeOf117
  v173 := Tryd.zeroValue117
  t212 := Tryd.underlying122
  a212 := Tryd.isAgg122
  z212 := Tryd.sizeOf122
  v212 := Tryd.zeroValue122
  t213 := Tryd.underlying124
  a213 := Tryd.isAgg124
  z213 := Tryd.sizeOf124
  t232 := Tryd.underlying133
  a232 := Tryd.isAgg133
  z232 := Tryd.sizeOf133
  v232 := Tryd.zeroValue133
  t233 := Tryd.underlying134
  a233 := Tryd.isAgg134
  z233 := Tryd.sizeOf134
  v233 := Tryd.zeroValue134
  g17 := by kernel_rfl
  g18 := by kernel_rfl
  g19 := by kernel_rfl }
open Go.RowKit Go.Sort Go.Lib in
theorem Tryd.strconv_Itoa_small (i : Nat) (hi : i < 100) (w : World) :
    Calls Tryd.prog 48 #[.int .i64 i] w fun e w' => e = .returned (.string ⟨(Lib.decDigits i).toArray⟩) ∧ w' = w := Any.strconv_Itoa_small Tryd.lays171 i hi w
def Tryd.lays145_ren : Go.Shelf.Ren := ⟨fun | 145 => 61 | 220 => 71 | 219 => 76 | 217 => 83 | 225 => 84 | 224 => 85 | 267 => 86 | 266 => 92 | 314 => 93 | n => n, fun | 9 => 9 | 4 => 4 | 59 => 95 | 3 => 3 | 5 => 5 | 46 => 120 | 146 => 130 | 51 => 123 | n => n, fun | 1 => 0 | n => n⟩
theorem Tryd.lays145 : Go.Proofs.Lays.n145 Tryd.prog Tryd.lays145_ren := {
  mixed := by kernel_rfl
  f145 := Tryd.func61.trans (congrArg some (by kernel_rfl))
  f217 := Tryd.func83.trans (congrArg some (by kernel_rfl))
  f219 := Tryd.func76.trans (congrArg some (by kernel_rfl))
  f220 := Tryd.func71.trans (congrArg some (by kernel_rfl))
  f224 := Tryd.func85.trans (congrArg some (by kernel_rfl))
  f225 := Tryd.func84.trans (congrArg some (by kernel_rfl))
  f266 := Tryd.func92.trans (congrArg some (by kernel_rfl))
  f267 := Tryd.func86.trans (congrArg some (by kernel_rfl))
  f314 := Tryd.func93.trans (congrArg some (by kernel_rfl))
  t3 := Tryd.underlying3
  a3 := Tryd.isAgg3
  z3 := Tryd.sizeOf3
  v3 := Tryd.zeroValue3
  t4 := Tryd.underlying4
  a4 := Tryd.isAgg4
  z4 := Tryd.sizeOf4
  v4 := Tryd.zeroValue4
  t5 := Tryd.underlying5
  a5 := Tryd.isAgg5
  z5 := Tryd.sizeOf5
  v5 := Tryd.zeroValue5
  t9 := Tryd.underlying9
  a9 := Tryd.isAgg9
  z9 := Tryd.sizeOf9
  v9 := Tryd.zeroValue9
  t46 := Tryd.underlying120
  a46 := Tryd.isAgg120
  z46 := Tryd.sizeOf120
  v46 := Tryd.zeroValue120
  t51 := Tryd.underlying123
  a51 := Tryd.isAgg123
  z51 := Tryd.sizeOf123
  v51 := Tryd.zeroValue123
  t59 := Tryd.underlying95
  a59 := Tryd.isAgg95
  z59 := Tryd.sizeOf95
  v59 := Tryd.zeroValue95
  t146 := Tryd.underlying130
  a146 := Tryd.isAgg130
  z146 := Tryd.sizeOf130
  v146 := Tryd.zeroValue130
  g1 := by kernel_rfl }
open Go.RowKit Go.Lib in
theorem Tryd.strings_Cut (s sep : ByteArray) (m : Int) (w : World) (hs : s.size < 4294967281) (hm : w.cell? ⟨0, 0, none⟩ = some (.int .i64 m)) :
    Calls Tryd.prog 61 #[.string s, .string sep] w fun e w' => e = .returned (.tuple #[.string ⟨(Lib.cut s.data.toList sep.data.toList).1.toArray⟩, .string ⟨(Lib.cut s.data.toList sep.data.toList).2.1.toArray⟩, .bool (Lib.cut s.data.toList sep.data.toList).2.2]) ∧ ∃ n, w' = w.drewN n := Any.strings_Cut Tryd.lays145 s sep m w hs hm
def Tryd.lays221_ren : Go.Shelf.Ren := ⟨fun | 221 => 54 | 268 => 65 | 138 => 66 | 143 => 67 | 195 => 73 | 197 => 74 | 218 => 75 | 219 => 76 | 260 => 82 | 217 => 83 | 225 => 84 | 224 => 85 | 267 => 86 | 266 => 92 | 314 => 93 | n => n, fun | 9 => 9 | 3 => 3 | 31 => 57 | 4 => 4 | 0 => 0 | 105 => 109 | 21 => 21 | 5 => 5 | 46 => 120 | 119 => 126 | 139 => 129 | 138 => 128 | 146 => 130 | 51 => 123 | n => n, fun | 1 => 0 | 3 => 2 | 4 => 3 | n => n⟩
theorem Tryd.lays221 : Go.Proofs.Lays.n221 Tryd.prog Tryd.lays221_ren := {
  mixed := by kernel_rfl
  f138 := Tryd.func66.trans (congrArg some (by kernel_rfl))
  f143 := Tryd.func67.trans (congrArg some (by kernel_rfl))
  f195 := Tryd.func73.trans (congrArg some (by kernel_rfl))
  f197 := Tryd.func74.trans (congrArg some (by kernel_rfl))
  f217 := Tryd.func83.trans (congrArg some (by kernel_rfl))
  f218 := Tryd.func75.trans (congrArg some (by kernel_rfl))
  f219 := Tryd.func76.trans (congrArg some (by kernel_rfl))
  f221 := Tryd.func54.trans (congrArg some (by kernel_rfl))
  f224 := Tryd.func85.trans (congrArg some (by kernel_rfl))
  f225 := Tryd.func84.trans (congrArg some (by kernel_rfl))
  f260 := Tryd.func82.trans (congrArg some (by kernel_rfl))
  f266 := Tryd.func92.trans (congrArg some (by kernel_rfl))
  f267 := Tryd.func86.trans (congrArg some (by kernel_rfl))
  f268 := Tryd.func65.trans (congrArg some (by kernel_rfl))
  f314 := Tryd.func93.trans (congrArg some (by kernel_rfl))
  t0 := Tryd.underlying0
  a0 := Tryd.isAgg0
  z0 := Tryd.sizeOf0
  v0 := Tryd.zeroValue0
  t3 := Tryd.underlying3
  a3 := Tryd.isAgg3
  z3 := Tryd.sizeOf3
  v3 := Tryd.zeroValue3
  t4 := Tryd.underlying4
  a4 := Tryd.isAgg4
  z4 := Tryd.sizeOf4
  v4 := Tryd.zeroValue4
  t5 := Tryd.underlying5
  a5 := Tryd.isAgg5
  z5 := Tryd.sizeOf5
  v5 := Tryd.zeroValue5
  t9 := Tryd.underlying9
  a9 := Tryd.isAgg9
  z9 := Tryd.sizeOf9
  v9 := Tryd.zeroValue9
  t21 := Tryd.underlying21
  a21 := Tryd.isAgg21
  z21 := Tryd.sizeOf21
  v21 := Tryd.zeroValue21
  t31 := Tryd.underlying57
  a31 := Tryd.isAgg57
  z31 := Tryd.sizeOf57
  v31 := Tryd.zeroValue57
  t46 := Tryd.underlying120
  a46 := Tryd.isAgg120
  z46 := Tryd.sizeOf120
  v46 := Tryd.zeroValue120
  t51 := Tryd.underlying123
  a51 := Tryd.isAgg123
  z51 := Tryd.sizeOf123
  v51 := Tryd.zeroValue123
  t105 := Tryd.underlying109
  a105 := Tryd.isAgg109
  z105 := Tryd.sizeOf109
  v105 := Tryd.zeroValue109
  t119 := Tryd.underlying126
  a119 := Tryd.isAgg126
  z119 := Tryd.sizeOf126
  t138 := Tryd.underlying128
  a138 := Tryd.isAgg128
  z138 := Tryd.sizeOf128
  v138 := Tryd.zeroValue128
  t139 := Tryd.underlying129
  a139 := Tryd.isAgg129
  z139 := Tryd.sizeOf129
  v139 := Tryd.zeroValue129
  t146 := Tryd.underlying130
  a146 := Tryd.isAgg130
  z146 := Tryd.sizeOf130
  v146 := Tryd.zeroValue130
  g1 := by kernel_rfl
  g3 := by kernel_rfl
  g4 := by kernel_rfl }
open Go.RowKit Go.Lib in
theorem Tryd.strings_genSplit (s sep : ByteArray) (sv : Nat) (n : Int) (N : Nat) (m : Int) (w : World) (hs : s.size < 4294967281) (hm : w.cell? ⟨0, 0, none⟩ = some (.int .i64 m)) (h1 : 1 ≤ sep.size) (hsv : sv ≤ sep.size) (hn0 : n ≠ 0) (hn63 : n ≤ 9223372036854775807) (hN : (N : Int) = min (if n < 0 then (Lib.countB s sep : Int) + 1 else n) ((s.size : Int) + 1)) :
    Calls Tryd.prog 54 #[.string s, .string sep, .int .i64 sv, .int .i64 n] w fun e w' =>
      e = .returned (.slice (some ⟨w.heap.size, 0, none⟩) (Lib.splitB sep sv (N - 1) s).length N) ∧ w' = w.alloc (.cells (Lib.cellsOf (Lib.splitB sep sv (N - 1) s) N) 9) := Any.strings_genSplit Tryd.lays221 (by kernel_rfl) s sep sv n N m w hs hm h1 hsv hn0 hn63 hN
def Tryd.lays146_ren : Go.Shelf.Ren := ⟨fun | 146 => 62 | 221 => 54 | 268 => 65 | 138 => 66 | 143 => 67 | 195 => 73 | 197 => 74 | 218 => 75 | 219 => 76 | 260 => 82 | 217 => 83 | 225 => 84 | 224 => 85 | 267 => 86 | 266 => 92 | 314 => 93 | n => n, fun | 9 => 9 | 31 => 57 | 3 => 3 | 4 => 4 | 0 => 0 | 105 => 109 | 21 => 21 | 5 => 5 | 46 => 120 | 119 => 126 | 139 => 129 | 138 => 128 | 146 => 130 | 51 => 123 | n => n, fun | 1 => 0 | 3 => 2 | 4 => 3 | n => n⟩
theorem Tryd.lays146 : Go.Proofs.Lays.n146 Tryd.prog Tryd.lays146_ren := {
  mixed := by kernel_rfl
  f138 := Tryd.func66.trans (congrArg some (by kernel_rfl))
  f143 := Tryd.func67.trans (congrArg some (by kernel_rfl))
  f146 := Tryd.func62.trans (congrArg some (by kernel_rfl))
  f195 := Tryd.func73.trans (congrArg some (by kernel_rfl))
  f197 := Tryd.func74.trans (congrArg some (by kernel_rfl))
  f217 := Tryd.func83.trans (congrArg some (by kernel_rfl))
  f218 := Tryd.func75.trans (congrArg some (by kernel_rfl))
  f219 := Tryd.func76.trans (congrArg some (by kernel_rfl))
  f221 := Tryd.func54.trans (congrArg some (by kernel_rfl))
  f224 := Tryd.func85.trans (congrArg some (by kernel_rfl))
  f225 := Tryd.func84.trans (congrArg some (by kernel_rfl))
  f260 := Tryd.func82.trans (congrArg some (by kernel_rfl))
  f266 := Tryd.func92.trans (congrArg some (by kernel_rfl))
  f267 := Tryd.func86.trans (congrArg some (by kernel_rfl))
  f268 := Tryd.func65.trans (congrArg some (by kernel_rfl))
  f314 := Tryd.func93.trans (congrArg some (by kernel_rfl))
  t0 := Tryd.underlying0
  a0 := Tryd.isAgg0
  z0 := Tryd.sizeOf0
  v0 := Tryd.zeroValue0
  t3 := Tryd.underlying3
  a3 := Tryd.isAgg3
  z3 := Tryd.sizeOf3
  v3 := Tryd.zeroValue3
  t4 := Tryd.underlying4
  a4 := Tryd.isAgg4
  z4 := Tryd.sizeOf4
  v4 := Tryd.zeroValue4
  t5 := Tryd.underlying5
  a5 := Tryd.isAgg5
  z5 := Tryd.sizeOf5
  v5 := Tryd.zeroValue5
  t9 := Tryd.underlying9
  a9 := Tryd.isAgg9
  z9 := Tryd.sizeOf9
  v9 := Tryd.zeroValue9
  t21 := Tryd.underlying21
  a21 := Tryd.isAgg21
  z21 := Tryd.sizeOf21
  v21 := Tryd.zeroValue21
  t31 := Tryd.underlying57
  a31 := Tryd.isAgg57
  z31 := Tryd.sizeOf57
  v31 := Tryd.zeroValue57
  t46 := Tryd.underlying120
  a46 := Tryd.isAgg120
  z46 := Tryd.sizeOf120
  v46 := Tryd.zeroValue120
  t51 := Tryd.underlying123
  a51 := Tryd.isAgg123
  z51 := Tryd.sizeOf123
  v51 := Tryd.zeroValue123
  t105 := Tryd.underlying109
  a105 := Tryd.isAgg109
  z105 := Tryd.sizeOf109
  v105 := Tryd.zeroValue109
  t119 := Tryd.underlying126
  a119 := Tryd.isAgg126
  z119 := Tryd.sizeOf126
  t138 := Tryd.underlying128
  a138 := Tryd.isAgg128
  z138 := Tryd.sizeOf128
  v138 := Tryd.zeroValue128
  t139 := Tryd.underlying129
  a139 := Tryd.isAgg129
  z139 := Tryd.sizeOf129
  v139 := Tryd.zeroValue129
  t146 := Tryd.underlying130
  a146 := Tryd.isAgg130
  z146 := Tryd.sizeOf130
  v146 := Tryd.zeroValue130
  g1 := by kernel_rfl
  g3 := by kernel_rfl
  g4 := by kernel_rfl }
open Go.RowKit Go.Lib in
theorem Tryd.strings_Split (s sep : ByteArray) (m : Int) (w : World) (hs : s.size < 4294967281) (hm : w.cell? ⟨0, 0, none⟩ = some (.int .i64 m)) (h1 : 1 ≤ sep.size) :
    Calls Tryd.prog 62 #[.string s, .string sep] w fun e w' =>
      e = .returned (.slice (some ⟨w.heap.size, 0, none⟩) (Lib.countB s sep + 1) (Lib.countB s sep + 1)) ∧ w' = w.alloc (.cells ((Lib.splitB sep 0 (Lib.countB s sep) s).map Value.string).toArray 9) := Any.strings_Split Tryd.lays146 (by kernel_rfl) s sep m w hs hm h1
def Tryd.lays240_ren : Go.Shelf.Ren := ⟨fun | 240 => 59 | 276 => 69 | n => n, fun | 0 => 0 | 4 => 4 | 9 => 9 | 20 => 20 | 37 => 68 | 70 => 67 | 72 => 70 | 164 => 103 | n => n, fun | n => n⟩
theorem Tryd.lays240 : Go.Proofs.Lays.n240 Tryd.prog Tryd.lays240_ren := {
  mixed := by kernel_rfl
  f240 := Tryd.func59.trans (congrArg some (by kernel_rfl))
  f276 := Tryd.func69.trans (congrArg some (by kernel_rfl))
  t0 := Tryd.underlying0
  a0 := Tryd.isAgg0
  z0 := Tryd.sizeOf0
  v0 := Tryd.zeroValue0
  t4 := Tryd.underlying4
  a4 := Tryd.isAgg4
  z4 := Tryd.sizeOf4
  v4 := Tryd.zeroValue4
  t9 := Tryd.underlying9
  a9 := Tryd.isAgg9
  z9 := Tryd.sizeOf9
  v9 := Tryd.zeroValue9
  t20 := Tryd.underlying20
  a20 := Tryd.isAgg20
  z20 := Tryd.sizeOf20
  v20 := Tryd.zeroValue20
  t70 := Tryd.underlying67
  a70 := Tryd.isAgg67
  z70 := Tryd.sizeOf67
  v70 := Tryd.zeroValue67
  t72 := Tryd.underlying70
  a72 := Tryd.isAgg70
  z72 := Tryd.sizeOf70
  v72 := Tryd.zeroValue70
  t164 := Tryd.underlying103
  a164 := Tryd.isAgg103
  z164 := Tryd.sizeOf103
  v164 := Tryd.zeroValue103 }
theorem Tryd.Builder_X72_240 : Builder.X72 Tryd.prog Tryd.lays240_ren := {
  sizeBuilder := by kernel_rfl
  liesBuilder := by kernel_rfl }
end Go.Proofs
namespace Go.Proofs.YtchpncmmlhfemaaDoor
set_option linter.unusedSimpArgs false
set_option linter.unusedVariables false
open Go.RowKit
set_option maxRecDepth 20000

theorem Tryd.copy_fresh (b : Nat) (w : World) (h0 : w.cell? ⟨b, 0, none⟩ = some (.pointer none)) (hsh : w.shape? b = some (70, 2)) (hfz : w.frozen? ⟨b, 0, none⟩ = false) :
    Calls Tryd.prog 59 #[.pointer (some ⟨b, 0, none⟩)] w fun e w' => e = .returned (.tuple #[]) ∧ w' = w.setCell ⟨b, 0, none⟩ (.pointer (some ⟨b, 0, none⟩)) := Any.Builder_copyCheck_fresh Tryd.lays240 Tryd.Builder_X72_240 b w h0 hsh hfz
theorem Tryd.copy_used (b : Nat) (w : World) (h0 : w.cell? ⟨b, 0, none⟩ = some (.pointer (some ⟨b, 0, none⟩))) :
    Calls Tryd.prog 59 #[.pointer (some ⟨b, 0, none⟩)] w fun e w' => e = .returned (.tuple #[]) ∧ w' = w := Any.Builder_copyCheck_used Tryd.lays240 Tryd.Builder_X72_240 b w h0
theorem bld_at {R : RO} {ι : IM} {h : LH} {B : Nat} {w : World} (hr : Rep R ι h B w) {k ver : Nat} {t : TypeId} {c0 c1 : LV} (hk : k < h.n) (hf : h.f k = (ver, .tbox t [c0, c1])) :
    (ι k).o = 0 ∧ (ι k).m = 2 ∧ ∃ v0 v1, w.heap[(ι k).b]? = some (.cells #[v0, v1] t (0, 0)) ∧ Rv R ι h c0 v0 ∧ Rv R ι h c1 v1 := by
  have hty := hr.ty k hk
  rw [hf] at hty
  obtain ⟨h1, h2, h3⟩ := hty
  have hm : (ι k).m ≠ 0 := by rw [h2]; simp
  obtain ⟨c0', hw0⟩ := h3 hm
  have hc := hr.cells k hk (by rw [hf]; rfl) (by rw [hf]; rfl) hm
  obtain ⟨cl, e, hw, hs, _, _, hcl⟩ := hc.ex
  rw [hf] at hcl
  rw [h1, h2] at hs
  have e1 : e = t := by
    rw [hw] at hw0
    injection hw0 with hw0
    injection hw0 with _ hw0 _
  subst e1
  obtain ⟨v0, a1, a2⟩ := hcl 0 0 c0 rfl
  obtain ⟨v1, b1, b2⟩ := hcl 0 1 c1 rfl
  rw [h1] at a1 b1
  simp only [LO.sz, Nat.zero_mul, Nat.zero_add, Nat.add_zero] at a1 b1
  refine ⟨h1, h2, v0, v1, ?_, a2, b2⟩
  rw [hw]
  have : cl = #[v0, v1] := by
    apply Array.ext_getElem?
    intro i
    match i with
    | 0 => rw [a1]; rfl
    | 1 => rw [b1]; rfl
    | i + 2 => rw [Array.getElem?_eq_none (by rw [hs]; simp), Array.getElem?_eq_none (by simp)]
  rw [this]
theorem lc_copy_fresh {h : LH} {k ver : Nat} {c1 : LV} (hk : k < h.n) (hf : h.f k = (ver, .tbox 70 [.sc (.pointer none), c1])) :
    LCall Tryd.prog 59 [.ptr k ver 0 0 0] h (.tup []) (h.set k (ver, .tbox 70 [.ptr k ver 0 0 0, c1])) := by
  rintro B R ι w ⟨vs⟩ hB hr hsz ha
  match vs, hsz with
  | [v], _ =>
    obtain ⟨h1, h2, v0, v1, hw, hv0, hv1⟩ := bld_at hr hk hf
    have hp : Rv R ι h (.ptr k ver 0 0 0) v := ha 0 _ rfl
    obtain ⟨a, rfl, _, _, hpl⟩ := hp.ptr_inv
    have hpl := hpl (by rw [hf])
    have e0 : a = ⟨(ι k).b, 0, none⟩ := by rw [hpl, h1]
    have ev := hv0.sc_inv.1
    subst ev
    have hst := st1_ok (P := Tryd.prog) hr hB (sz := 0) (i := 0) (c := 0) (a := a) (lv := .ptr k ver 0 0 0) hk (by rw [hf]) hpl (by rw [hf]; exact ⟨rfl, rfl, by simp, rfl⟩) hp
    rw [hf] at hst
    subst e0
    refine (Tryd.copy_fresh (ι k).b w (by simp [World.cell?, hw]) (by simp [World.shape?, hw]) (by simp [World.frozen?, hw])).mono ?_
    rintro e w' ⟨rfl, rfl⟩
    exact ⟨_, R, ι, rfl, hst.2, .tup _ _ rfl (fun i c hi => by simp at hi)⟩
theorem lc_copy_used {h : LH} {k ver : Nat} {c1 : LV} (hk : k < h.n) (hf : h.f k = (ver, .tbox 70 [.ptr k ver 0 0 0, c1])) :
    LCall Tryd.prog 59 [.ptr k ver 0 0 0] h (.tup []) h := by
  rintro B R ι w ⟨vs⟩ hB hr hsz ha
  match vs, hsz with
  | [v], _ =>
    obtain ⟨h1, h2, v0, v1, hw, hv0, hv1⟩ := bld_at hr hk hf
    have hp : Rv R ι h (.ptr k ver 0 0 0) v := ha 0 _ rfl
    obtain ⟨a, rfl, _, _, hpl⟩ := hp.ptr_inv
    have hpl := hpl (by rw [hf])
    have e0 : a = ⟨(ι k).b, 0, none⟩ := by rw [hpl, h1]
    obtain ⟨a', rfl, _, _, hpl'⟩ := hv0.ptr_inv
    have hpl' := hpl' (by rw [hf])
    have e0' : a' = ⟨(ι k).b, 0, none⟩ := by rw [hpl', h1]
    subst e0 e0'
    refine (Tryd.copy_used (ι k).b w (by simp [World.cell?, hw])).mono ?_
    rintro e w' ⟨rfl, rfl⟩
    exact ⟨_, R, ι, rfl, Trans.refl hr hB, .tup _ _ rfl (fun i c hi => by simp at hi)⟩
end Go.Proofs.YtchpncmmlhfemaaDoor
namespace Go.Proofs.YtchpncmmlhfemaaDoor
set_option linter.unusedSimpArgs false
set_option linter.unusedVariables false
open Go.RowKit
set_option maxRecDepth 20000

theorem set_self {h : LH} {k : Nat} {vo : Nat × LO} : (h.set k vo).f k = vo := by simp [LH.set]
theorem set_ne {h : LH} {k j : Nat} {vo : Nat × LO} (hne : j ≠ k) : (h.set k vo).f j = h.f j := by simp [LH.set, hne]
theorem set_n {h : LH} {k : Nat} {vo : Nat × LO} : (h.set k vo).n = h.n := rfl
theorem strI_len (s : ByteArray) : (strI s).length = s.size := by simp [strI]
def bysF (xs : List Int) (i : Nat) : List LV := [.sc (.int .u8 (xs.getD i 0))]
def bldS (h : LH) (kb vb kr vr : Nat) (xs : List Int) : LH := (h.set kr (vr, .byt 5 xs)).set kb (vb, .tbox 70 [.ptr kb vb 0 0 0, .sl kr vr 1 0 xs.length])
theorem lc_ws_row {h : LH} {kb vb kr vr : Nat} {xs : List Int} (hkb : kb < h.n) (hb : h.f kb = (vb, .tbox 70 [.ptr kb vb 0 0 0, .sl kr vr 1 0 xs.length])) (hkr : kr < h.n) (hr : h.f kr = (vr, .byt 5 xs)) (hne : kr ≠ kb)
    (s : ByteArray) (hs : 0 < s.size) (hroom : xs.length + s.size ≤ 1000000) :
    LCall Tryd.prog 46 [.ptr kb vb 0 0 0, .sc (.string s)] h (.tup [.sc (.int .i64 s.size), .sc .nilIface]) (bldS h kb vb kr (vr + 1) (xs ++ strI s)) := by
  refine lcall_of_lwpH Tryd.func46 comp46 (show 2 ≤ Tryd.f46.ntmps by decide) ?_
  unfold cf46 rf46
  simp only [↓EVP0, EVQ0, EVQ1, EVQ2, EVQ3, EVQ4, EVA, EVK, true_and, ↓reduceIte, Nat.reduceEqDiff, Nat.reduceAdd, Nat.reduceSub, Nat.reduceMul, Nat.reduceLT, Nat.reduceLeDiff, reduceCtorEq, Int.reduceToNat, Int.reduceLT, Int.reduceLE, Int.reduceAdd, Int.reduceSub, Int.reduceMul, Int.reduceNeg, Int.reduceEq, Nat.reduceMod, forall_eq_or_imp, forall_eq, forall_const, cond_true, cond_false, decide_true, decide_false, true_imp_iff, implies_true, Int.cast_ofNat_Int, forall_eq']
  refine callK_mut (lc_copy_used hkb hb) ?_
  simp only [↓EVP0, EVQ0, EVQ1, EVQ2, EVQ3, EVQ4, EVA, EVK, true_and, ↓reduceIte, Nat.reduceEqDiff, Nat.reduceAdd, Nat.reduceSub, Nat.reduceMul, Nat.reduceLT, Nat.reduceLeDiff, reduceCtorEq, Int.reduceToNat, Int.reduceLT, Int.reduceLE, Int.reduceAdd, Int.reduceSub, Int.reduceMul, Int.reduceNeg, Int.reduceEq, Nat.reduceMod, forall_eq_or_imp, forall_eq, forall_const, cond_true, cond_false, decide_true, decide_false, true_imp_iff, implies_true, Int.cast_ofNat_Int, forall_eq']
  simp only [hb]
  simp only [↓EVP0, EVQ0, EVQ1, EVQ2, EVQ3, EVQ4, EVA, EVK, true_and, ↓reduceIte, Nat.reduceEqDiff, Nat.reduceAdd, Nat.reduceSub, Nat.reduceMul, Nat.reduceLT, Nat.reduceLeDiff, reduceCtorEq, Int.reduceToNat, Int.reduceLT, Int.reduceLE, Int.reduceAdd, Int.reduceSub, Int.reduceMul, Int.reduceNeg, Int.reduceEq, Nat.reduceMod, forall_eq_or_imp, forall_eq, forall_const, cond_true, cond_false, decide_true, decide_false, true_imp_iff, implies_true, Int.cast_ofNat_Int, forall_eq']
  simp only [hr, set_self, set_ne (Ne.symm hne), set_n, hb]
  simp only [↓EVP0, EVQ0, EVQ1, EVQ2, EVQ3, EVQ4, EVA, EVK, true_and, ↓reduceIte, Nat.reduceEqDiff, Nat.reduceAdd, Nat.reduceSub, Nat.reduceMul, Nat.reduceLT, Nat.reduceLeDiff, reduceCtorEq, Int.reduceToNat, Int.reduceLT, Int.reduceLE, Int.reduceAdd, Int.reduceSub, Int.reduceMul, Int.reduceNeg, Int.reduceEq, Nat.reduceMod, forall_eq_or_imp, forall_eq, forall_const, cond_true, cond_false, decide_true, decide_false, true_imp_iff, implies_true, Int.cast_ofNat_Int, forall_eq']
  refine ⟨hkb, by rw [strI_len]; exact hs, hkr, by unfold appRoom; rw [strI_len]; omega, hkb, ?_⟩
  unfold finH bldS
  simp only [↓EVP0, EVQ0, EVQ1, EVQ2, EVQ3, EVQ4, EVA, EVK, true_and, ↓reduceIte, Nat.reduceEqDiff, Nat.reduceAdd, Nat.reduceSub, Nat.reduceMul, Nat.reduceLT, Nat.reduceLeDiff, reduceCtorEq, Int.reduceToNat, Int.reduceLT, Int.reduceLE, Int.reduceAdd, Int.reduceSub, Int.reduceMul, Int.reduceNeg, Int.reduceEq, Nat.reduceMod, forall_eq_or_imp, forall_eq, forall_const, cond_true, cond_false, decide_true, decide_false, true_imp_iff, implies_true, Int.cast_ofNat_Int, forall_eq']
  rw [List.length_append]
theorem bytR (c : Int) : ∀ i, i < 1 → bysF [c] i = List.take 1 (List.drop (i * 1) [LV.sc (.int .u8 c)]) := by
  intro i hi
  obtain rfl : i = 0 := by omega
  rfl
theorem bytR2 (c : Int) : ∀ i, i < 1 → isU8 ((bysF [c] i).getD 0 .any) := by
  intro i hi
  obtain rfl : i = 0 := by omega
  exact trivial
theorem yB_one (c : Int) : yB (.rsl 1 1 (bysF [c])) = [c] := rfl
theorem lc_wb_row {h : LH} {kb vb kr vr : Nat} {xs : List Int} (hkb : kb < h.n) (hb : h.f kb = (vb, .tbox 70 [.ptr kb vb 0 0 0, .sl kr vr 1 0 xs.length])) (hkr : kr < h.n) (hr : h.f kr = (vr, .byt 5 xs)) (hne : kr ≠ kb)
    (c : Int) (hroom : xs.length ≤ 1000000) :
    LCall Tryd.prog 47 [.ptr kb vb 0 0 0, .sc (.int .u8 c)] h (.sc .nilIface) (bldS h kb vb kr (vr + 1) (xs ++ [c])) := by
  refine lcall_of_lwpH Tryd.func47 comp47 (show 2 ≤ Tryd.f47.ntmps by decide) ?_
  unfold cf47 rf47
  simp only [↓EVP0, EVQ0, EVQ1, EVQ2, EVQ3, EVQ4, EVA, EVK, true_and, ↓reduceIte, Nat.reduceEqDiff, Nat.reduceAdd, Nat.reduceSub, Nat.reduceMul, Nat.reduceLT, Nat.reduceLeDiff, reduceCtorEq, Int.reduceToNat, Int.reduceLT, Int.reduceLE, Int.reduceAdd, Int.reduceSub, Int.reduceMul, Int.reduceNeg, Int.reduceEq, Nat.reduceMod, forall_eq_or_imp, forall_eq, forall_const, cond_true, cond_false, decide_true, decide_false, true_imp_iff, implies_true, Int.cast_ofNat_Int, forall_eq']
  refine callK_mut (lc_copy_used hkb hb) ?_
  simp only [↓EVP0, EVQ0, EVQ1, EVQ2, EVQ3, EVQ4, EVA, EVK, true_and, ↓reduceIte, Nat.reduceEqDiff, Nat.reduceAdd, Nat.reduceSub, Nat.reduceMul, Nat.reduceLT, Nat.reduceLeDiff, reduceCtorEq, Int.reduceToNat, Int.reduceLT, Int.reduceLE, Int.reduceAdd, Int.reduceSub, Int.reduceMul, Int.reduceNeg, Int.reduceEq, Nat.reduceMod, forall_eq_or_imp, forall_eq, forall_const, cond_true, cond_false, decide_true, decide_false, true_imp_iff, implies_true, Int.cast_ofNat_Int, forall_eq']
  simp only [hb]
  simp only [↓EVP0, EVQ0, EVQ1, EVQ2, EVQ3, EVQ4, EVA, EVK, true_and, ↓reduceIte, Nat.reduceEqDiff, Nat.reduceAdd, Nat.reduceSub, Nat.reduceMul, Nat.reduceLT, Nat.reduceLeDiff, reduceCtorEq, Int.reduceToNat, Int.reduceLT, Int.reduceLE, Int.reduceAdd, Int.reduceSub, Int.reduceMul, Int.reduceNeg, Int.reduceEq, Nat.reduceMod, forall_eq_or_imp, forall_eq, forall_const, cond_true, cond_false, decide_true, decide_false, true_imp_iff, implies_true, Int.cast_ofNat_Int, forall_eq']
  refine ⟨hkb, bysF [c], bytR c, ?_⟩
  simp only [yB_one, hr, set_self, set_ne (Ne.symm hne), set_n, hb]
  simp only [↓EVP0, EVQ0, EVQ1, EVQ2, EVQ3, EVQ4, EVA, EVK, true_and, ↓reduceIte, Nat.reduceEqDiff, Nat.reduceAdd, Nat.reduceSub, Nat.reduceMul, Nat.reduceLT, Nat.reduceLeDiff, reduceCtorEq, Int.reduceToNat, Int.reduceLT, Int.reduceLE, Int.reduceAdd, Int.reduceSub, Int.reduceMul, Int.reduceNeg, Int.reduceEq, Nat.reduceMod, forall_eq_or_imp, forall_eq, forall_const, cond_true, cond_false, decide_true, decide_false, true_imp_iff, implies_true, Int.cast_ofNat_Int, forall_eq']
  refine ⟨bytR2 c, hkr, by unfold appRoom; omega, hkb, ?_⟩
  unfold finH bldS
  simp only [↓EVP0, EVQ0, EVQ1, EVQ2, EVQ3, EVQ4, EVA, EVK, true_and, ↓reduceIte, Nat.reduceEqDiff, Nat.reduceAdd, Nat.reduceSub, Nat.reduceMul, Nat.reduceLT, Nat.reduceLeDiff, reduceCtorEq, Int.reduceToNat, Int.reduceLT, Int.reduceLE, Int.reduceAdd, Int.reduceSub, Int.reduceMul, Int.reduceNeg, Int.reduceEq, Nat.reduceMod, forall_eq_or_imp, forall_eq, forall_const, cond_true, cond_false, decide_true, decide_false, true_imp_iff, implies_true, Int.cast_ofNat_Int, forall_eq']
  rw [List.length_append]; rfl
def bldN (h : LH) (kb vb : Nat) (xs : List Int) : LH := ((h.set kb (vb, .tbox 70 [.ptr kb vb 0 0 0, .nsl])).push (.byt 5 xs)).set kb (vb, .tbox 70 [.ptr kb vb 0 0 0, .sl h.n 0 1 0 xs.length])
theorem push_old {h : LH} {k : Nat} {ob : LO} (hk : k < h.n) : (h.push ob).f k = h.f k := by simp [LH.push, Nat.ne_of_lt hk]
theorem push_n {h : LH} {ob : LO} : (h.push ob).n = h.n + 1 := rfl
theorem lc_ws_new {h : LH} {kb vb : Nat} (hkb : kb < h.n) (hb : h.f kb = (vb, .tbox 70 [.sc (.pointer none), .nsl]))
    (s : ByteArray) (hs : 0 < s.size) (hroom : s.size ≤ 1000000) :
    LCall Tryd.prog 46 [.ptr kb vb 0 0 0, .sc (.string s)] h (.tup [.sc (.int .i64 s.size), .sc .nilIface]) (bldN h kb vb (strI s)) := by
  refine lcall_of_lwpH Tryd.func46 comp46 (show 2 ≤ Tryd.f46.ntmps by decide) ?_
  unfold cf46 rf46
  simp only [↓EVP0, EVQ0, EVQ1, EVQ2, EVQ3, EVQ4, EVA, EVK, true_and, ↓reduceIte, Nat.reduceEqDiff, Nat.reduceAdd, Nat.reduceSub, Nat.reduceMul, Nat.reduceLT, Nat.reduceLeDiff, reduceCtorEq, Int.reduceToNat, Int.reduceLT, Int.reduceLE, Int.reduceAdd, Int.reduceSub, Int.reduceMul, Int.reduceNeg, Int.reduceEq, Nat.reduceMod, forall_eq_or_imp, forall_eq, forall_const, cond_true, cond_false, decide_true, decide_false, true_imp_iff, implies_true, Int.cast_ofNat_Int, forall_eq']
  refine callK_mut (lc_copy_fresh hkb hb) ?_
  simp only [↓EVP0, EVQ0, EVQ1, EVQ2, EVQ3, EVQ4, EVA, EVK, true_and, ↓reduceIte, Nat.reduceEqDiff, Nat.reduceAdd, Nat.reduceSub, Nat.reduceMul, Nat.reduceLT, Nat.reduceLeDiff, reduceCtorEq, Int.reduceToNat, Int.reduceLT, Int.reduceLE, Int.reduceAdd, Int.reduceSub, Int.reduceMul, Int.reduceNeg, Int.reduceEq, Nat.reduceMod, forall_eq_or_imp, forall_eq, forall_const, cond_true, cond_false, decide_true, decide_false, true_imp_iff, implies_true, Int.cast_ofNat_Int, forall_eq']
  simp only [set_self, set_n]
  simp only [↓EVP0, EVQ0, EVQ1, EVQ2, EVQ3, EVQ4, EVA, EVK, true_and, ↓reduceIte, Nat.reduceEqDiff, Nat.reduceAdd, Nat.reduceSub, Nat.reduceMul, Nat.reduceLT, Nat.reduceLeDiff, reduceCtorEq, Int.reduceToNat, Int.reduceLT, Int.reduceLE, Int.reduceAdd, Int.reduceSub, Int.reduceMul, Int.reduceNeg, Int.reduceEq, Nat.reduceMod, forall_eq_or_imp, forall_eq, forall_const, cond_true, cond_false, decide_true, decide_false, true_imp_iff, implies_true, Int.cast_ofNat_Int, forall_eq']
  simp only [push_old (h := h.set kb _) hkb, push_n, set_self, set_n]
  simp only [↓EVP0, EVQ0, EVQ1, EVQ2, EVQ3, EVQ4, EVA, EVK, true_and, ↓reduceIte, Nat.reduceEqDiff, Nat.reduceAdd, Nat.reduceSub, Nat.reduceMul, Nat.reduceLT, Nat.reduceLeDiff, reduceCtorEq, Int.reduceToNat, Int.reduceLT, Int.reduceLE, Int.reduceAdd, Int.reduceSub, Int.reduceMul, Int.reduceNeg, Int.reduceEq, Nat.reduceMod, forall_eq_or_imp, forall_eq, forall_const, cond_true, cond_false, decide_true, decide_false, true_imp_iff, implies_true, Int.cast_ofNat_Int, forall_eq']
  refine ⟨hkb, by rw [strI_len]; exact hs, by unfold appRoom; rw [strI_len]; omega, by omega, ?_⟩
  unfold finH bldN
  simp only [↓EVP0, EVQ0, EVQ1, EVQ2, EVQ3, EVQ4, EVA, EVK, true_and, ↓reduceIte, Nat.reduceEqDiff, Nat.reduceAdd, Nat.reduceSub, Nat.reduceMul, Nat.reduceLT, Nat.reduceLeDiff, reduceCtorEq, Int.reduceToNat, Int.reduceLT, Int.reduceLE, Int.reduceAdd, Int.reduceSub, Int.reduceMul, Int.reduceNeg, Int.reduceEq, Nat.reduceMod, forall_eq_or_imp, forall_eq, forall_const, cond_true, cond_false, decide_true, decide_false, true_imp_iff, implies_true, Int.cast_ofNat_Int, forall_eq']
end Go.Proofs.YtchpncmmlhfemaaDoor
namespace Go.Proofs.YtchpncmmlhfemaaDoor
set_option linter.unusedSimpArgs false
set_option linter.unusedVariables false
open Go.RowKit
set_option maxRecDepth 20000

set_option maxHeartbeats 2000000 in
set_option maxRecDepth 100000 in
theorem str_run {P : Program} {ρ : Go.Shelf.Ren} (L : Lays.n169 P ρ) (X : Builder.Extra P ρ) (b g cap n : Nat) (l : List UInt8) (w : World) (c1' : w.cell? ⟨b, 1, none⟩ = some (.slice (some ⟨g, 0, none⟩) l.length cap))
    (hsh : w.shape? g = some (ρ.t 5, n)) (hln : l.length ≤ n) (h0 : l ≠ []) (hlc : l.length ≤ cap) (hcm : cap ≤ maxLen) (hby : ∀ (j : Nat) (x : UInt8), l[j]? = some x → w.cell? ((⟨g, 0, none⟩ : Addr).add j) = some (.int .u8 x.toNat)) :
    Calls P (ρ.f 169) #[.pointer (some ⟨b, 0, none⟩)] w fun e w' => e = .returned (.string ⟨l.toArray⟩) ∧ w' = w.drew.freeze ⟨g, 0, none⟩ l.length := by
  have hl0 : l.length ≠ 0 := by simpa using h0
  have c1 : w.drew.cell? ⟨b, 1, none⟩ = some (.slice (some ⟨g, 0, none⟩) l.length cap) := c1'
  have hSD : (Builtin.unsafeSliceData_ #[(ρ.t 37)] (ρ.t 127) #[.slice (some ⟨g, 0, none⟩) l.length cap]).run P w.drew = .ok (.pointer (some ⟨g, 0, none⟩)) w.drew :=
    Lib.run_unsafeSliceData_row _ _ _ _ _ _ (by omega)
  have hUS : (Builtin.unsafeString_ #[(ρ.t 127), (ρ.t 3)] (ρ.t 9) #[.pointer (some ⟨g, 0, none⟩), .int .i64 l.length]).run P w.drew = .ok (.string ⟨l.toArray⟩) (w.drew.freeze ⟨g, 0, none⟩ l.length) :=
    Lib.run_unsafeString_row w.drew (ρ.t 127) (ρ.t 3) (ρ.t 9) (ρ.t 5) L.t127 X.cellsByte g n hsh l h0 hln (by unfold maxLen at hcm; omega) hby
  have mixed := L.mixed
  have t72 := L.t72; have a72 := L.a72; have z72 := L.z72; have v72 := L.v72; have u72 := run_underlying L.t72
  have t70 := L.t70; have a70 := L.a70; have z70 := L.z70; have v70 := L.v70; have u70 := run_underlying L.t70
  have t37 := L.t37; have a37 := L.a37; have z37 := L.z37; have v37 := L.v37; have u37 := run_underlying L.t37
  have t127 := L.t127; have a127 := L.a127; have z127 := L.z127; have v127 := L.v127; have u127 := run_underlying L.t127
  have t3 := L.t3; have a3 := L.a3; have z3 := L.z3; have v3 := L.v3; have u3 := run_underlying L.t3
  have t9 := L.t9; have a9 := L.a9; have z9 := L.z9; have v9 := L.v9; have u9 := run_underlying L.t9
  have t5 := X.t5; have a5 := X.a5; have z5 := X.z5; have v5 := X.v5; have u5 := run_underlying X.t5
  go_enter L.f169, Body.n169_ntmps ρ
  go_wp2
  go_region_o
  all_goals (go_wp2; go_ret; exact ⟨rfl, rfl⟩)
theorem Rep.drop {R : RO} {ι : IM} {h : LH} {B : Nat} {w w' : World} (hr : Rep R ι h B w) (hB : B ≤ w.heap.size) {k : Nat} (hk : k < h.n) (hlive : (h.f k).2.live = true) (hm : (ι k).m ≠ 0)
    (hos : w'.os = w.os) (htape : w'.tape = w.tape) (hout : w'.output = w.output) (hsize : w'.heap.size = w.heap.size) (hother : ∀ b, b ≠ (ι k).b → w'.heap[b]? = w.heap[b]?) :
    Trans B R ι h w R ι (h.set k ((h.f k).1, .dead)) w' := by
  have hmono : Mono R ι h R ι (h.set k ((h.f k).1, .dead)) := by
    refine ⟨fun _ _ hx => hx, Nat.le_refl _, fun j hj => ?_, fun j hj hv => rfl⟩
    by_cases e : j = k
    · subst e; simp [LH.set]
    · simp [LH.set, e]
  have hf : ∀ j, j ≠ k → (h.set k ((h.f k).1, .dead)).f j = h.f j := fun j hj => by simp [LH.set, hj]
  have hfk : (h.set k ((h.f k).1, .dead)).f k = ((h.f k).1, .dead) := by simp [LH.set]
  have hbk := hr.base k hk hlive (.inl hm)
  have hne : ∀ j, j < h.n → j ≠ k → (h.f j).2.live = true → ((ι j).m ≠ 0 ∨ (h.f j).2.isMap = true) → (ι j).b ≠ (ι k).b :=
    fun j hj hjk hlv hmz e => hjk (hr.apart j k hj hk hlv hlive hmz (.inl hm) e)
  have hjk : ∀ j, ((h.set k ((h.f k).1, .dead)).f j).2.live = true → j ≠ k := by
    intro j hl e
    subst e
    rw [hfk] at hl; simp [LO.live] at hl
  refine ⟨⟨?_, ?_, ?_, ?_, ?_, ?_, ?_, hr.gl⟩, hmono, ⟨hos, htape, hout, by omega, fun b hb => hother b (by omega)⟩, fun _ _ => rfl, hB⟩
  · intro b o hb
    rw [hother b (fun e => by rw [e, hbk.2.2] at hb; simp at hb)]
    exact hr.ro b o hb
  · intro j hj hlv hmp hmz
    have e := hjk j hlv
    rw [hf j e] at hlv hmp ⊢
    obtain ⟨cl, e', hw, hs, hz, hpl, hcl⟩ := (hr.cells j hj hlv hmp hmz).ex
    exact ⟨cl, e', by rw [hother _ (hne j hj e hlv (.inl hmz))]; exact hw, hs, hz, hpl, fun i c' lv hx => let ⟨v, a1, a2⟩ := hcl i c' lv hx; ⟨v, a1, a2.mono hmono⟩⟩
  · intro j hj hlv hmp hmz
    have e := hjk j hlv
    rw [hf j e] at hlv hmp ⊢
    exact hr.empty j hj hlv hmp hmz
  · intro j hj hlv hmz
    have e := hjk j hlv
    rw [hf j e] at hlv hmz
    obtain ⟨a, b, c⟩ := hr.base j hj hlv hmz
    exact ⟨a, by omega, c⟩
  · intro j j' hj hj' hlv hlv' hmz hmz' hbb
    have e := hjk j hlv
    have e' := hjk j' hlv'
    rw [hf j e] at hlv hmz
    rw [hf j' e'] at hlv' hmz'
    exact hr.apart j j' hj hj' hlv hlv' hmz hmz' hbb
  · intro j es hj hes
    have e := hjk j (by rw [hes]; rfl)
    rw [hf j e] at hes
    obtain ⟨ents, clock, q1, q2, q3, q4⟩ := hr.maps j es hj hes
    refine ⟨ents, clock, ?_, q2, q3, fun i kv hkv => let ⟨en, a1, a2, a3⟩ := q4 i kv hkv; ⟨en, a1, a2, a3.mono hmono⟩⟩
    rw [hother _ (hne j hj e (by rw [hes]; rfl) (.inr (by rw [hes]; rfl)))]; exact q1
  · intro j hj
    by_cases e : j = k
    · subst e; rw [hfk]; exact trivial
    · rw [hf j e]
      exact (hr.ty j hj).heap fun h1 h2 => hother _ (hne j hj e h1 (.inl h2))
def u8I (l : List UInt8) : List Int := l.map fun b => ((b.toNat : Nat) : Int)
theorem lc_str_row {h : LH} {kb vb kr vr : Nat} {l : List UInt8} (hkb : kb < h.n) (hb : h.f kb = (vb, .tbox 70 [.ptr kb vb 0 0 0, .sl kr vr 1 0 l.length])) (hkr : kr < h.n) (hrr : h.f kr = (vr, .byt 5 (u8I l))) (h0 : l ≠ []) :
    LCall Tryd.prog 49 [.ptr kb vb 0 0 0] h (.sc (.string ⟨l.toArray⟩)) (h.set kr (vr, .dead)) := by
  rintro B R ι w ⟨vs⟩ hB hr hsz ha
  match vs, hsz with
  | [v], _ =>
    obtain ⟨h1, h2, v0, v1, hw, hv0, hv1⟩ := bld_at hr hkb hb
    have hp : Rv R ι h (.ptr kb vb 0 0 0) v := ha 0 _ rfl
    obtain ⟨a, rfl, _, _, hpl⟩ := hp.ptr_inv
    have hpl := hpl (by rw [hb])
    have e0 : a = ⟨(ι kb).b, 0, none⟩ := by rw [hpl, h1]
    subst e0
    have hl0 : 0 < l.length := List.length_pos_iff.2 h0
    obtain ⟨sa, cap, rfl, _, _, hlc, hm, hcase⟩ := hv1.sl_inv
    obtain ⟨rfl, hcapm⟩ := (hcase.resolve_left (by omega)) (by rw [hrr])
    have hty := hr.ty kr hkr
    rw [hrr] at hty
    obtain ⟨t1, t2⟩ := hty
    simp only [Nat.zero_mul, Nat.add_zero, Nat.zero_add, Nat.mul_one] at hcapm hw
    rw [t1] at hw
    have hm0 : (ι kr).m ≠ 0 := by omega
    obtain ⟨c0, hg⟩ := t2 hm0
    have hlv : (h.f kr).2.live = true := by rw [hrr]; rfl
    obtain ⟨cl, e, hw2, hs, hle, _, hcl⟩ := (hr.cells kr hkr hlv (by rw [hrr]; rfl) hm0).ex
    rw [hw2] at hg
    injection hg with hg
    injection hg with _ hg _
    subst hg
    rw [hrr] at hcl
    have hrun := str_run Tryd.lays169 Tryd.Builder_Extra_169 (ι kb).b (ι kr).b cap cl.size l w (by simp [World.cell?, hw]) (by simp [World.shape?, hw2]; rfl) (by omega) h0 hlc hm (fun j x hx => by
      obtain ⟨u, a1, a2⟩ := hcl j 0 (.sc (.int .u8 x.toNat)) (by simp [cellAt, u8I, hx])
      have := a2.sc_inv.1
      subst this
      rw [t1] at a1
      simp only [LO.sz, Nat.mul_one, Nat.add_zero, Nat.zero_add] at a1
      rw [add_mk, Nat.zero_add]
      simp [World.cell?, hw2, a1])
    refine Calls.mono hrun ?_
    rintro e' w' ⟨rfl, rfl⟩
    have hfz : ∀ b, b ≠ (ι kr).b → (w.drew.freeze ⟨(ι kr).b, 0, none⟩ l.length).heap[b]? = w.heap[b]? := by
      intro b hb'
      unfold World.freeze
      rw [if_neg (by omega)]
      simp only [Array.getElem?_modify]
      rw [if_neg (fun e => hb' e.symm)]; rfl
    have hT := Rep.drop hr hB hkr hlv hm0 (w' := w.drew.freeze ⟨(ι kr).b, 0, none⟩ l.length) (by unfold World.freeze; split <;> rfl) (by unfold World.freeze; split <;> rfl) (by unfold World.freeze; split <;> rfl) (by unfold World.freeze; split <;> first | rfl | exact Array.size_modify) hfz
    rw [hrr] at hT
    exact ⟨_, R, ι, rfl, hT, rv_sc rfl⟩
theorem lc_str_nil {h : LH} {kb vb : Nat} {c0 : LV} (hkb : kb < h.n) (hb : h.f kb = (vb, .tbox 70 [c0, .nsl])) :
    LCall Tryd.prog 49 [.ptr kb vb 0 0 0] h (.sc (.string ⟨#[]⟩)) h := by
  rintro B R ι w ⟨vs⟩ hB hr hsz ha
  match vs, hsz with
  | [v], _ =>
    obtain ⟨h1, h2, v0, v1, hw, hv0, hv1⟩ := bld_at hr hkb hb
    have hp : Rv R ι h (.ptr kb vb 0 0 0) v := ha 0 _ rfl
    obtain ⟨a, rfl, _, _, hpl⟩ := hp.ptr_inv
    have hpl := hpl (by rw [hb])
    have e0 : a = ⟨(ι kb).b, 0, none⟩ := by rw [hpl, h1]
    subst e0
    have := hv1.nsl_inv
    subst this
    refine Calls.mono (Any.Builder_String_nil Tryd.lays169 Tryd.Builder_Extra_169 w.heap.size (ι kb).b v0 w hw) ?_
    rintro e' w' ⟨rfl, hBl⟩
    refine ⟨_, R, ι, rfl, trans_call hB hr (fun b o hbo => ?_) hBl (fun _ _ h => h) (fun _ _ => rfl) rfl, rv_sc rfl⟩
    have := hr.ro b o hbo
    rw [hBl.block b (Array.getElem?_eq_some_iff.1 this).1]; exact this
end Go.Proofs.YtchpncmmlhfemaaDoor
namespace Go.Proofs.YtchpncmmlhfemaaDoor
set_option linter.unusedSimpArgs false
set_option linter.unusedVariables false
open Go.RowKit
set_option maxRecDepth 20000

theorem sc_inv {R : RO} {a v : Value} (h : Ro R (.sc a) v) : v = a := by cases h; rfl
theorem ev_itoa (i : Nat) (hi : i < 100) : Ev Tryd.prog 48 [.sc (.int .i64 (i : Int))] (.sc (.string ⟨(Lib.decDigits i).toArray⟩)) := by
  rintro R w ⟨vs⟩ hR hgl hs ha
  match vs, hs with
  | [v], _ =>
    have h0 := sc_inv (ha 0 _ rfl)
    have h1 : v = .int .i64 (i : Int) := h0
    subst h1
    refine (Tryd.strconv_Itoa_small i hi w).mono ?_
    rintro e w' ⟨rfl, rfl⟩
    exact ⟨_, R, rfl, fun _ _ h => h, fun _ _ => rfl, hR, Below.refl _ _, .sc _ rfl⟩
def txsF (l : List ByteArray) (i : Nat) : List LV := [.sc (.string (l.getD i ⟨#[]⟩))]
def txsV (l : List ByteArray) : LV := .rsl 1 l.length (txsF l)
theorem ev_join (xs : List ByteArray) (sep : ByteArray) (hN : xs.length ≤ 140737488355328) (hlen : (Lib.join (xs.map (·.data.toList)) sep.data.toList).length ≤ 140737488355328) :
    Ev Tryd.prog 33 [txsV xs, .sc (.string sep)] (.sc (.string ⟨(Lib.join (xs.map (·.data.toList)) sep.data.toList).toArray⟩)) := by
  rintro R w ⟨vs⟩ hR hgl hs ha
  match vs, hs with
  | [v, u], _ =>
    have h0 : Ro R (.rsl 1 xs.length (txsF xs)) v := ha 0 _ rfl
    have h1 : u = .string sep := sc_inv (ha 1 _ rfl)
    subst h1
    cases h0 with
    | rsl sz n f a cap b o g hc hm hadr hf hcell hv hp =>
      rcases Nat.eq_zero_or_pos xs.length with hz | hz
      · have : xs = [] := List.length_eq_zero_iff.1 hz
        subst this
        refine (Tryd.strings_Join_none a cap sep w).mono ?_
        rintro e w' ⟨rfl, rfl⟩
        exact ⟨_, R, rfl, fun _ _ h => h, fun _ _ => rfl, hR, Below.refl _ _, .sc _ rfl⟩
      · rw [hadr hz]
        have hcl : ∀ (j : Nat) x, xs[j]? = some x → w.cell? ⟨b, o + j, none⟩ = some (.string x) := by
          intro j x hx
          have hj : j < xs.length := by
            rcases Nat.lt_or_ge j xs.length with h | h
            · exact h
            · rw [List.getElem?_eq_none h] at hx; simp at hx
          have h1 := hcell j 0 hj (by omega)
          have h2 := hv j 0 _ hj (show (txsF xs j)[0]? = some _ from rfl)
          have h3 : g j 0 = .string (xs.getD j ⟨#[]⟩) := sc_inv h2
          rw [h3, List.getD_eq_getElem?_getD, hx] at h1
          unfold roCell at h1
          split at h1
          · rename_i c t z hb
            have := hR b _ hb
            simp only [World.cell?, this]
            simpa using h1
          · simp at h1
        have hbk : b < w.heap.size := by
          have h1 := hcell 0 0 hz (by omega)
          unfold roCell at h1
          split at h1
          · rename_i c t z hb
            have := hR b _ hb
            rcases Nat.lt_or_ge b w.heap.size with h | h
            · exact h
            · rw [Array.getElem?_eq_none h] at this; simp at this
          · simp at h1
        refine (Tryd.strings_Join b o cap xs sep w hcl hbk hN hc hlen).mono ?_
        rintro e w' ⟨rfl, hB⟩
        refine ⟨_, R, rfl, fun _ _ h => h, fun _ _ => rfl, fun k q hk => ?_, hB, .sc _ rfl⟩
        have h1 := hR k q hk
        have : k < w.heap.size := by
          rcases Nat.lt_or_ge k w.heap.size with h | h
          · exact h
          · rw [Array.getElem?_eq_none h] at h1; simp at h1
        rw [hB.block k this]; exact h1
end Go.Proofs.YtchpncmmlhfemaaDoor
namespace Go.Proofs.YtchpncmmlhfemaaDoor
set_option linter.unusedSimpArgs false
set_option linter.unusedVariables false
open Go.RowKit
set_option maxRecDepth 20000

theorem ev_itoaA (n : Int) (hn : In64 n) : Ev Tryd.prog 48 [.sc (.int .i64 n)] (.sc (.string ⟨(Lib.itoa n).toArray⟩)) := by
  rintro R w ⟨vs⟩ hR hgl hs ha
  match vs, hs with
  | [v], _ =>
    have h0 : v = .int .i64 n := sc_inv (ha 0 _ rfl)
    subst h0
    refine (Tryd.strconv_Itoa n hn.1 hn.2 w (hgl w hR).1).mono ?_
    rintro e w' ⟨rfl, k, os, rfl⟩
    have hB : Below w.heap.size w (Go.Sort.grow (w.drewN k) os) := by
      refine ⟨rfl, rfl, rfl, ?_, ?_⟩
      · simp [Go.Sort.grow, World.drewN]
      · intro b hb
        simp only [Go.Sort.grow, World.drewN]
        rw [Array.getElem?_append_left (by simpa using hb)]
    refine ⟨_, R, rfl, fun _ _ h => h, fun _ _ => rfl, fun b q hb => ?_, hB, .sc _ rfl⟩
    have h1 := hR b q hb
    have : b < w.heap.size := by
      rcases Nat.lt_or_ge b w.heap.size with h | h
      · exact h
      · rw [Array.getElem?_eq_none h] at h1; simp at h1
    rw [hB.block b this]; exact h1
end Go.Proofs.YtchpncmmlhfemaaDoor
namespace Go.Proofs.YtchpncmmlhfemaaDoor
set_option linter.unusedSimpArgs false
set_option linter.unusedVariables false
open Go.RowKit
set_option maxRecDepth 20000

theorem strI_u8 (s : ByteArray) : strI s = u8I s.data.toList := rfl
theorem u8I_app (a b : List UInt8) : u8I (a ++ b) = u8I a ++ u8I b := by simp [u8I]
theorem u8I_len (a : List UInt8) : (u8I a).length = a.length := by simp [u8I]
def decS (i : Nat) : ByteArray := ⟨(Lib.decDigits i).toArray⟩
def lineW (ws : List ByteArray) : List UInt8 := Lib.join (ws.map (·.data.toList)) [32]
def lineB (ws : List ByteArray) : List UInt8 := lineW ws ++ [10]
theorem bldS_kb {h : LH} {kb vb kr vr : Nat} {xs : List Int} : (bldS h kb vb kr vr xs).f kb = (vb, .tbox 70 [.ptr kb vb 0 0 0, .sl kr vr 1 0 xs.length]) := by simp [bldS, LH.set]
theorem bldS_kr {h : LH} {kb vb kr vr : Nat} {xs : List Int} (hne : kr ≠ kb) : (bldS h kb vb kr vr xs).f kr = (vr, .byt 5 xs) := by simp [bldS, LH.set, hne]
theorem bldS_S {h : LH} {kb vb kr v1 v2 : Nat} {x1 x2 : List Int} : bldS (bldS h kb vb kr v1 x1) kb vb kr v2 x2 = bldS h kb vb kr v2 x2 := by
  unfold bldS LH.set
  congr 1
  funext j
  by_cases e : j = kb
  · simp [e]
  · by_cases e2 : j = kr <;> simp [e, e2]
theorem bldN_kb {h : LH} {kb vb : Nat} {xs : List Int} : (bldN h kb vb xs).f kb = (vb, .tbox 70 [.ptr kb vb 0 0 0, .sl h.n 0 1 0 xs.length]) := by simp [bldN, LH.set]
theorem bldN_kr {h : LH} {kb vb : Nat} {xs : List Int} (hk : kb < h.n) : (bldN h kb vb xs).f h.n = (0, .byt 5 xs) := by
  have : ¬ h.n = kb := by omega
  simp [bldN, LH.set, LH.push, this]
theorem bldN_n {h : LH} {kb vb : Nat} {xs : List Int} : (bldN h kb vb xs).n = h.n + 1 := rfl
theorem ev_joinW (ws : List ByteArray) (hN : ws.length ≤ 1000) (hl : (lineW ws).length ≤ 1000000) : Ev Tryd.prog 33 [txsV ws, .sc (.string ⟨#[32]⟩)] (.sc (.string ⟨(lineW ws).toArray⟩)) :=
  ev_join ws ⟨#[32]⟩ (by omega) (by unfold lineW at hl; show (Lib.join (ws.map (·.data.toList)) [32]).length ≤ _; omega)
theorem lc_line_row {h : LH} {kb vb kr vr : Nat} {l : List UInt8} (hkb : kb < h.n) (hb : h.f kb = (vb, .tbox 70 [.ptr kb vb 0 0 0, .sl kr vr 1 0 l.length])) (hkr : kr < h.n) (hr : h.f kr = (vr, .byt 5 (u8I l))) (hne : kr ≠ kb)
    (ws : List ByteArray) (hN : ws.length ≤ 1000) (h0 : 0 < (lineW ws).length) (hroom : l.length + (lineW ws).length ≤ 1000000) :
    LCall Tryd.prog 45 [txsV ws, .ptr kb vb 0 0 0] h (.tup []) (bldS h kb vb kr (vr + 1 + 1) (u8I (l ++ lineB ws))) := by
  have j1 := ev_joinW ws hN (by omega)
  have s1 := lc_ws_row hkb (by rw [u8I_len]; exact hb) hkr hr hne ⟨(lineW ws).toArray⟩ (by simpa [ByteArray.size] using h0) (by rw [u8I_len]; simp [ByteArray.size]; omega)
  have e1 : strI ⟨(lineW ws).toArray⟩ = u8I (lineW ws) := by rw [strI_u8]
  rw [e1, ← u8I_app] at s1
  have s2 := lc_wb_row (h := bldS h kb vb kr (vr + 1) (u8I (l ++ lineW ws))) hkb bldS_kb hkr (bldS_kr hne) hne 10 (by rw [u8I_len, List.length_append]; exact hroom)
  rw [bldS_S, show u8I (l ++ lineW ws) ++ [10] = u8I (l ++ lineB ws) by unfold lineB; rw [← List.append_assoc, u8I_app (l ++ lineW ws)]; rfl] at s2
  unfold txsV at *
  refine lcall_of_lwpH Tryd.func45 comp45 (show 2 ≤ Tryd.f45.ntmps by decide) ?_
  unfold cf45 rf45
  simp only [↓EVP0, EVQ0, EVQ1, EVQ2, EVQ3, EVQ4, EVA, EVK, EVF, ↓reduceIte, Nat.reduceEqDiff, Nat.reduceAdd, Nat.reduceSub, Nat.reduceMul, Nat.reduceLT, Nat.reduceLeDiff, reduceCtorEq, Int.reduceToNat, Int.reduceLT, Int.reduceLE, Int.reduceAdd, Int.reduceSub, Int.reduceMul, Int.reduceNeg, Int.reduceEq, Nat.reduceMod, forall_eq_or_imp, forall_eq, forall_const, cond_true, cond_false, decide_true, decide_false, true_imp_iff, implies_true, Int.cast_ofNat_Int, forall_eq']
  refine callK_ro (j1) ?_ ?_
  · simp only [↓EVP0, EVQ0, EVQ1, EVQ2, EVQ3, EVQ4, EVA, EVK, EVF, ↓reduceIte, Nat.reduceEqDiff, Nat.reduceAdd, Nat.reduceSub, Nat.reduceMul, Nat.reduceLT, Nat.reduceLeDiff, reduceCtorEq, Int.reduceToNat, Int.reduceLT, Int.reduceLE, Int.reduceAdd, Int.reduceSub, Int.reduceMul, Int.reduceNeg, Int.reduceEq, Nat.reduceMod, forall_eq_or_imp, forall_eq, forall_const, cond_true, cond_false, decide_true, decide_false, true_imp_iff, implies_true, Int.cast_ofNat_Int, forall_eq']
  simp only [↓EVP0, EVQ0, EVQ1, EVQ2, EVQ3, EVQ4, EVA, EVK, EVF, ↓reduceIte, Nat.reduceEqDiff, Nat.reduceAdd, Nat.reduceSub, Nat.reduceMul, Nat.reduceLT, Nat.reduceLeDiff, reduceCtorEq, Int.reduceToNat, Int.reduceLT, Int.reduceLE, Int.reduceAdd, Int.reduceSub, Int.reduceMul, Int.reduceNeg, Int.reduceEq, Nat.reduceMod, forall_eq_or_imp, forall_eq, forall_const, cond_true, cond_false, decide_true, decide_false, true_imp_iff, implies_true, Int.cast_ofNat_Int, forall_eq']
  refine callK_mut s1 ?_
  simp only [↓EVP0, EVQ0, EVQ1, EVQ2, EVQ3, EVQ4, EVA, EVK, EVF, ↓reduceIte, Nat.reduceEqDiff, Nat.reduceAdd, Nat.reduceSub, Nat.reduceMul, Nat.reduceLT, Nat.reduceLeDiff, reduceCtorEq, Int.reduceToNat, Int.reduceLT, Int.reduceLE, Int.reduceAdd, Int.reduceSub, Int.reduceMul, Int.reduceNeg, Int.reduceEq, Nat.reduceMod, forall_eq_or_imp, forall_eq, forall_const, cond_true, cond_false, decide_true, decide_false, true_imp_iff, implies_true, Int.cast_ofNat_Int, forall_eq']
  refine callK_mut s2 ?_
  simp only [↓EVP0, EVQ0, EVQ1, EVQ2, EVQ3, EVQ4, EVA, EVK, EVF, ↓reduceIte, Nat.reduceEqDiff, Nat.reduceAdd, Nat.reduceSub, Nat.reduceMul, Nat.reduceLT, Nat.reduceLeDiff, reduceCtorEq, Int.reduceToNat, Int.reduceLT, Int.reduceLE, Int.reduceAdd, Int.reduceSub, Int.reduceMul, Int.reduceNeg, Int.reduceEq, Nat.reduceMod, forall_eq_or_imp, forall_eq, forall_const, cond_true, cond_false, decide_true, decide_false, true_imp_iff, implies_true, Int.cast_ofNat_Int, forall_eq']
  unfold finH
  simp only [↓EVP0, EVQ0, EVQ1, EVQ2, EVQ3, EVQ4, EVA, EVK, EVF, ↓reduceIte, Nat.reduceEqDiff, Nat.reduceAdd, Nat.reduceSub, Nat.reduceMul, Nat.reduceLT, Nat.reduceLeDiff, reduceCtorEq, Int.reduceToNat, Int.reduceLT, Int.reduceLE, Int.reduceAdd, Int.reduceSub, Int.reduceMul, Int.reduceNeg, Int.reduceEq, Nat.reduceMod, forall_eq_or_imp, forall_eq, forall_const, cond_true, cond_false, decide_true, decide_false, true_imp_iff, implies_true, Int.cast_ofNat_Int, forall_eq']
theorem lc_line_new {h : LH} {kb vb : Nat} (hkb : kb < h.n) (hb : h.f kb = (vb, .tbox 70 [.sc (.pointer none), .nsl]))
    (ws : List ByteArray) (hN : ws.length ≤ 1000) (h0 : 0 < (lineW ws).length) (hroom : (lineW ws).length ≤ 1000000) :
    LCall Tryd.prog 45 [txsV ws, .ptr kb vb 0 0 0] h (.tup []) (bldS (bldN h kb vb (u8I (lineW ws))) kb vb h.n 1 (u8I (lineB ws))) := by
  have j1 := ev_joinW ws hN (by omega)
  have s1 := lc_ws_new hkb hb ⟨(lineW ws).toArray⟩ (by simpa [ByteArray.size] using h0) (by simp [ByteArray.size]; omega)
  have e1 : strI ⟨(lineW ws).toArray⟩ = u8I (lineW ws) := by rw [strI_u8]
  rw [e1] at s1
  have s2 := lc_wb_row (h := bldN h kb vb (u8I (lineW ws))) (kr := h.n) (vr := 0) (by rw [bldN_n]; omega) bldN_kb (by rw [bldN_n]; omega) (bldN_kr hkb) (by omega) 10 (by rw [u8I_len]; exact hroom)
  rw [show u8I (lineW ws) ++ [10] = u8I (lineB ws) by unfold lineB; rw [u8I_app]; rfl] at s2
  unfold txsV at *
  refine lcall_of_lwpH Tryd.func45 comp45 (show 2 ≤ Tryd.f45.ntmps by decide) ?_
  unfold cf45 rf45
  simp only [↓EVP0, EVQ0, EVQ1, EVQ2, EVQ3, EVQ4, EVA, EVK, EVF, ↓reduceIte, Nat.reduceEqDiff, Nat.reduceAdd, Nat.reduceSub, Nat.reduceMul, Nat.reduceLT, Nat.reduceLeDiff, reduceCtorEq, Int.reduceToNat, Int.reduceLT, Int.reduceLE, Int.reduceAdd, Int.reduceSub, Int.reduceMul, Int.reduceNeg, Int.reduceEq, Nat.reduceMod, forall_eq_or_imp, forall_eq, forall_const, cond_true, cond_false, decide_true, decide_false, true_imp_iff, implies_true, Int.cast_ofNat_Int, forall_eq']
  refine callK_ro (j1) ?_ ?_
  · simp only [↓EVP0, EVQ0, EVQ1, EVQ2, EVQ3, EVQ4, EVA, EVK, EVF, ↓reduceIte, Nat.reduceEqDiff, Nat.reduceAdd, Nat.reduceSub, Nat.reduceMul, Nat.reduceLT, Nat.reduceLeDiff, reduceCtorEq, Int.reduceToNat, Int.reduceLT, Int.reduceLE, Int.reduceAdd, Int.reduceSub, Int.reduceMul, Int.reduceNeg, Int.reduceEq, Nat.reduceMod, forall_eq_or_imp, forall_eq, forall_const, cond_true, cond_false, decide_true, decide_false, true_imp_iff, implies_true, Int.cast_ofNat_Int, forall_eq']
  simp only [↓EVP0, EVQ0, EVQ1, EVQ2, EVQ3, EVQ4, EVA, EVK, EVF, ↓reduceIte, Nat.reduceEqDiff, Nat.reduceAdd, Nat.reduceSub, Nat.reduceMul, Nat.reduceLT, Nat.reduceLeDiff, reduceCtorEq, Int.reduceToNat, Int.reduceLT, Int.reduceLE, Int.reduceAdd, Int.reduceSub, Int.reduceMul, Int.reduceNeg, Int.reduceEq, Nat.reduceMod, forall_eq_or_imp, forall_eq, forall_const, cond_true, cond_false, decide_true, decide_false, true_imp_iff, implies_true, Int.cast_ofNat_Int, forall_eq']
  refine callK_mut s1 ?_
  simp only [↓EVP0, EVQ0, EVQ1, EVQ2, EVQ3, EVQ4, EVA, EVK, EVF, ↓reduceIte, Nat.reduceEqDiff, Nat.reduceAdd, Nat.reduceSub, Nat.reduceMul, Nat.reduceLT, Nat.reduceLeDiff, reduceCtorEq, Int.reduceToNat, Int.reduceLT, Int.reduceLE, Int.reduceAdd, Int.reduceSub, Int.reduceMul, Int.reduceNeg, Int.reduceEq, Nat.reduceMod, forall_eq_or_imp, forall_eq, forall_const, cond_true, cond_false, decide_true, decide_false, true_imp_iff, implies_true, Int.cast_ofNat_Int, forall_eq']
  refine callK_mut s2 ?_
  simp only [↓EVP0, EVQ0, EVQ1, EVQ2, EVQ3, EVQ4, EVA, EVK, EVF, ↓reduceIte, Nat.reduceEqDiff, Nat.reduceAdd, Nat.reduceSub, Nat.reduceMul, Nat.reduceLT, Nat.reduceLeDiff, reduceCtorEq, Int.reduceToNat, Int.reduceLT, Int.reduceLE, Int.reduceAdd, Int.reduceSub, Int.reduceMul, Int.reduceNeg, Int.reduceEq, Nat.reduceMod, forall_eq_or_imp, forall_eq, forall_const, cond_true, cond_false, decide_true, decide_false, true_imp_iff, implies_true, Int.cast_ofNat_Int, forall_eq']
  unfold finH
  simp only [↓EVP0, EVQ0, EVQ1, EVQ2, EVQ3, EVQ4, EVA, EVK, EVF, ↓reduceIte, Nat.reduceEqDiff, Nat.reduceAdd, Nat.reduceSub, Nat.reduceMul, Nat.reduceLT, Nat.reduceLeDiff, reduceCtorEq, Int.reduceToNat, Int.reduceLT, Int.reduceLE, Int.reduceAdd, Int.reduceSub, Int.reduceMul, Int.reduceNeg, Int.reduceEq, Nat.reduceMod, forall_eq_or_imp, forall_eq, forall_const, cond_true, cond_false, decide_true, decide_false, true_imp_iff, implies_true, Int.cast_ofNat_Int, forall_eq']
end Go.Proofs.YtchpncmmlhfemaaDoor
namespace Go.Proofs.YtchpncmmlhfemaaDoor
set_option linter.unusedSimpArgs false
set_option linter.unusedVariables false
open Go.RowKit
set_option maxRecDepth 20000

def wSwitch : ByteArray := ⟨#[115, 119, 105, 116, 99, 104]⟩
def wEnd : ByteArray := ⟨#[101, 110, 100]⟩
def wCable : ByteArray := ⟨#[99, 97, 98, 108, 101]⟩
def wdsN (n : Nd) : List ByteArray := bif n.sw then [wSwitch, n.name, decS n.ports.toNat] else [wEnd, n.name]
def wdsC (p : Pl) (c : Cb) : List ByteArray := [wCable, (p.ns.getD c.a.toNat default).name, decS c.ap.toNat, (p.ns.getD c.b.toNat default).name, decS c.bp.toNat, decS c.dl.toNat, decS c.cp.toNat]
def txtNs (p : Pl) (i : Nat) : List UInt8 := ((p.ns.take i).map fun n => lineB (wdsN n)).flatten
def txtCs (p : Pl) (i : Nat) : List UInt8 := ((p.cs.take i).map fun c => lineB (wdsC p c)).flatten
def fmtE (p : Pl) : ByteArray × Int := if validE p = 0 then (⟨(txtNs p p.ns.length ++ txtCs p p.cs.length).toArray⟩, 0) else (⟨#[]⟩, validE p)
theorem get_memG {α : Type} (d : α) {l : List α} {i : Nat} (h : i < l.length) : l.getD i d ∈ l := by
  rw [List.getD_eq_getElem?_getD, List.getElem?_eq_getElem h]; exact List.getElem_mem h
theorem take_flat {α : Type} (d : α) (g : α → List UInt8) {l : List α} {i : Nat} (h : i < l.length) : ((l.take (i + 1)).map g).flatten = ((l.take i).map g).flatten ++ g (l.getD i d) := by
  rw [List.take_succ_eq_append_getElem h, List.map_append, List.flatten_append, List.getD_eq_getElem?_getD, List.getElem?_eq_getElem h]
  simp
theorem lineW_one (a : ByteArray) : lineW [a] = a.data.toList := by simp [lineW, Lib.join, List.intercalate]
theorem lineW_cons (a b : ByteArray) (r : List ByteArray) : lineW (a :: b :: r) = a.data.toList ++ ([32] ++ lineW (b :: r)) := by simp [lineW, Lib.join, List.intercalate]
theorem decS_len {x : Nat} (h : x ≤ 1000) : (decS x).data.toList.length ≤ 20 := by
  show (Lib.decDigits x).length ≤ 20
  rw [Lib.decDigits_length]
  exact Lib.nDigits_le20 x (by omega)
structure PlNum (p : Pl) : Prop where
  nod : ∀ q, q ∈ p.ns → nodeOk q = true
  prt : ∀ c, c ∈ p.cs → portsOk p c = true
  num : ∀ c, c ∈ p.cs → numOk c = true
theorem num_of {p : Pl} (h : validE p = 0) : PlNum p := by
  unfold validE at h
  cases h1 : decide (16 < p.ns.length) || decide (32 < p.cs.length)
  · rw [h1, cond_false] at h
    cases h2 : p.ns.all nodeOk
    · rw [h2] at h; simp at h
    · rw [h2] at h
      cases h3 : p.cs.all (portsOk p)
      · rw [h3] at h; simp at h
      · rw [h3] at h
        cases h4 : repOk p
        · rw [h4] at h
          cases h5 : p.cs.all selfOk
          · rw [h5] at h; simp at h
          · rw [h5] at h
            cases h6 : p.cs.all numOk
            · rw [h6] at h; simp at h
            · exact ⟨List.all_eq_true.1 h2, List.all_eq_true.1 h3, List.all_eq_true.1 h6⟩
        · rw [h4] at h; simp at h
  · rw [h1] at h; simp at h
theorem name_len {s : ByteArray} (h : nameOk s = true) : 1 ≤ s.data.toList.length ∧ s.data.toList.length ≤ 20 := by
  unfold nameOk at h
  simp only [Bool.and_eq_true, decide_eq_true_eq] at h
  exact ⟨h.1, h.2.1⟩
theorem node_num {q : Nd} (h : nodeOk q = true) : nameOk q.name = true ∧ 1 ≤ q.ports ∧ q.ports ≤ 8 := by
  unfold nodeOk at h
  simp only [Bool.and_eq_true] at h
  refine ⟨h.1, ?_⟩
  have h2 := h.2
  cases hs : q.sw
  · rw [hs, cond_false, decide_eq_true_eq] at h2; omega
  · rw [hs, cond_true, Bool.and_eq_true, decide_eq_true_eq, decide_eq_true_eq] at h2; exact h2
theorem wdsN_len {q : Nd} (h : nodeOk q = true) : 0 < (lineW (wdsN q)).length ∧ (lineW (wdsN q)).length ≤ 180 := by
  obtain ⟨h1, h2, h3⟩ := node_num h
  have h4 := name_len h1
  have h5 := decS_len (x := q.ports.toNat) (by omega)
  have e1 : wSwitch.data.toList.length = 6 := rfl
  have e2 : wEnd.data.toList.length = 3 := rfl
  unfold wdsN
  cases q.sw
  · simp only [cond_false, lineW_cons, lineW_one, List.length_append, e2, List.length_singleton]; omega
  · simp only [cond_true, lineW_cons, lineW_one, List.length_append, e1, List.length_singleton]; omega
theorem cab_num {p : Pl} (hn : PlNum p) {c : Cb} (hc : c ∈ p.cs) : (0 ≤ c.a ∧ c.a < p.ns.length ∧ 0 ≤ c.b ∧ c.b < p.ns.length) ∧ nameOk (p.ns.getD c.a.toNat default).name = true ∧ nameOk (p.ns.getD c.b.toNat default).name = true ∧ (0 ≤ c.ap ∧ c.ap ≤ 1000) ∧ (0 ≤ c.bp ∧ c.bp ≤ 1000) ∧ (0 ≤ c.dl ∧ c.dl ≤ 1000) ∧ (0 ≤ c.cp ∧ c.cp ≤ 1000) := by
  have h1 := hn.prt c hc
  have h2 := hn.num c hc
  unfold portsOk portOk at h1
  unfold numOk at h2
  simp only [Bool.and_eq_true, decide_eq_true_eq] at h1 h2
  obtain ⟨⟨a1, a2, a3, a4⟩, b1, b2, b3, b4⟩ := h1
  have ha := node_num (hn.nod _ (get_memG default (show c.a.toNat < p.ns.length by omega)))
  have hb := node_num (hn.nod _ (get_memG default (show c.b.toNat < p.ns.length by omega)))
  exact ⟨⟨a1, a2, b1, b2⟩, ha.1, hb.1, ⟨a3, by omega⟩, ⟨b3, by omega⟩, ⟨by omega, by omega⟩, ⟨by omega, by omega⟩⟩
theorem wdsC_len {p : Pl} (hn : PlNum p) {c : Cb} (hc : c ∈ p.cs) : 0 < (lineW (wdsC p c)).length ∧ (lineW (wdsC p c)).length ≤ 180 := by
  obtain ⟨_, h1, h2, h3, h4, h5, h6⟩ := cab_num hn hc
  have h1 := name_len h1
  have h2 := name_len h2
  have h3 := decS_len (x := c.ap.toNat) (by omega)
  have h4 := decS_len (x := c.bp.toNat) (by omega)
  have h5 := decS_len (x := c.dl.toNat) (by omega)
  have h6 := decS_len (x := c.cp.toNat) (by omega)
  have e1 : wCable.data.toList.length = 5 := rfl
  unfold wdsC
  simp only [lineW_cons, lineW_one, List.length_append, e1, List.length_singleton]; omega
theorem flat_len {α : Type} {g : α → List UInt8} {l : List α} (h : ∀ x, x ∈ l → (g x).length ≤ 181) : ∀ (i : Nat), ((l.take i).map g).flatten.length ≤ i * 181 := by
  induction l with
  | nil => intro i; simp
  | cons x r ih =>
    intro i
    cases i with
    | zero => simp
    | succ i =>
      have := ih (fun y hy => h y (by simp [hy])) i
      have h2 := h x (by simp)
      rw [List.take_succ_cons, List.map_cons, List.flatten_cons, List.length_append, Nat.succ_mul]
      omega
theorem lineB_len (ws : List ByteArray) : (lineB ws).length = (lineW ws).length + 1 := by simp [lineB]
theorem txtNs_len {p : Pl} (hn : PlNum p) (i : Nat) : (txtNs p i).length ≤ i * 181 := flat_len (fun q hq => by rw [lineB_len]; have := wdsN_len (hn.nod q hq); omega) i
theorem txtCs_len {p : Pl} (hn : PlNum p) (i : Nat) : (txtCs p i).length ≤ i * 181 := flat_len (fun c hc => by rw [lineB_len]; have := wdsC_len hn hc; omega) i
theorem txtNs_succ {p : Pl} {i : Nat} (h : i < p.ns.length) : txtNs p (i + 1) = txtNs p i ++ lineB (wdsN (p.ns.getD i default)) := take_flat default (fun n => lineB (wdsN n)) h
theorem txtCs_succ {p : Pl} {i : Nat} (h : i < p.cs.length) : txtCs p (i + 1) = txtCs p i ++ lineB (wdsC p (p.cs.getD i default)) := take_flat default (fun c => lineB (wdsC p c)) h
theorem txs7 (a b c d e f g : ByteArray) : ∀ i, i < 7 → txsF [a, b, c, d, e, f, g] i = List.take 1 (List.drop (i * 1) [LV.sc (.string a), LV.sc (.string b), LV.sc (.string c), LV.sc (.string d), LV.sc (.string e), LV.sc (.string f), LV.sc (.string g)]) := by
  intro i hi
  obtain rfl | rfl | rfl | rfl | rfl | rfl | rfl : i = 0 ∨ i = 1 ∨ i = 2 ∨ i = 3 ∨ i = 4 ∨ i = 5 ∨ i = 6 := by omega
  all_goals rfl
def isNum (p : Pl) (x : Int) : Prop := (∃ q, q ∈ p.ns ∧ q.ports = x) ∨ ∃ c, c ∈ p.cs ∧ (c.ap = x ∨ c.bp = x ∨ c.dl = x ∨ c.cp = x)
theorem txs2 (a b : ByteArray) : ∀ i, i < 2 → txsF [a, b] i = List.take 1 (List.drop (i * 1) [LV.sc (.string a), LV.sc (.string b)]) := by
  intro i hi
  obtain rfl | rfl : i = 0 ∨ i = 1 := by omega
  all_goals rfl
theorem txs3 (a b c : ByteArray) : ∀ i, i < 3 → txsF [a, b, c] i = List.take 1 (List.drop (i * 1) [LV.sc (.string a), LV.sc (.string b), LV.sc (.string c)]) := by
  intro i hi
  obtain rfl | rfl | rfl : i = 0 ∨ i = 1 ∨ i = 2 := by omega
  all_goals rfl
theorem ev_format (p : Pl) (hp : PlOk p) (hI : ∀ x : Int, 0 ≤ x ∧ x ≤ 1000 → isNum p x → Ev Tryd.prog 48 [.sc (.int .i64 x)] (.sc (.string (decS x.toNat)))) :
    Ev Tryd.prog 28 [plV p] (.tup [.sc (.string (fmtE p).1), .sc (.int .i64 (fmtE p).2)]) := by
  have h1 := ev_valid p hp
  unfold plV at *
  refine ev_fn Tryd.func28 comp28 (show 1 ≤ Tryd.f28.ntmps by decide) ?_; unfold cf28 rf28; simp only [↓EVP0, EVQ0, EVQ1, EVQ2, EVQ3, EVQ4, EVA, EVK, EVF, ↓reduceIte, Nat.reduceEqDiff, Nat.reduceAdd, Nat.reduceSub, Nat.reduceMul, Nat.reduceLT, Nat.reduceLeDiff, reduceCtorEq, Int.reduceToNat, Int.reduceLT, Int.reduceLE, Int.reduceAdd, Int.reduceSub, Int.reduceMul, Int.reduceNeg, Int.reduceEq, Nat.reduceMod, forall_eq_or_imp, forall_eq, forall_const, cond_true, cond_false, decide_true, decide_false, true_imp_iff, implies_true, Int.cast_ofNat_Int, forall_eq']
  refine callK_ro (h1) ?_ ?_
  · simp only [↓EVP0, EVQ0, EVQ1, EVQ2, EVQ3, EVQ4, EVA, EVK, EVF, ↓reduceIte, Nat.reduceEqDiff, Nat.reduceAdd, Nat.reduceSub, Nat.reduceMul, Nat.reduceLT, Nat.reduceLeDiff, reduceCtorEq, Int.reduceToNat, Int.reduceLT, Int.reduceLE, Int.reduceAdd, Int.reduceSub, Int.reduceMul, Int.reduceNeg, Int.reduceEq, Nat.reduceMod, forall_eq_or_imp, forall_eq, forall_const, cond_true, cond_false, decide_true, decide_false, true_imp_iff, implies_true, Int.cast_ofNat_Int, forall_eq']
  simp only [↓EVP0, EVQ0, EVQ1, EVQ2, EVQ3, EVQ4, EVA, EVK, EVF, ↓reduceIte, Nat.reduceEqDiff, Nat.reduceAdd, Nat.reduceSub, Nat.reduceMul, Nat.reduceLT, Nat.reduceLeDiff, reduceCtorEq, Int.reduceToNat, Int.reduceLT, Int.reduceLE, Int.reduceAdd, Int.reduceSub, Int.reduceMul, Int.reduceNeg, Int.reduceEq, Nat.reduceMod, forall_eq_or_imp, forall_eq, forall_const, cond_true, cond_false, decide_true, decide_false, true_imp_iff, implies_true, Int.cast_ofNat_Int, forall_eq']
  refine ⟨fun hg => ?_, fun hg => ?_⟩
  · have e : fmtE p = (⟨#[]⟩, validE p) := by unfold fmtE; rw [if_neg (by simpa using hg)]
    rw [e]; exact ⟨rfl, rfl⟩
  have hv : validE p = 0 := by simpa using hg
  have hV := valid_of hv
  have hN := num_of hv
  intro _
  refine lwp_for (α := Nat) p.ns.length (fun i _ => True) (fun i _ => [(1, .ptr 0 0 0 0 0), (5, .ptr 1 0 0 0 0), (6, .fn 45 [.ptr 1 0 0 0 0]), (18, .rsl 3 p.ns.length (ndsF p.ns)), (19, .sc (.int .i64 p.ns.length)), (20, .sc (.int .i64 i))])
    (fun i v => if i = 0 then [(0, .box [.rsl 3 p.ns.length (ndsF p.ns), .rsl 6 p.cs.length (cbsF p.cs)]), (0, .tbox 70 [.sc (.pointer none), .nsl])]
      else [(0, .box [.rsl 3 p.ns.length (ndsF p.ns), .rsl 6 p.cs.length (cbsF p.cs)]), (0, .tbox 70 [.ptr 1 0 0 0 0, .sl 3 v 1 0 (txtNs p i).length]), (0, .box (ndL (p.ns.getD 0 default))), (v, .byt 5 (u8I (txtNs p i)))]) 0 trivial ?_ (fun _ _ => Nat.zero_le _) ?_
  · rw [if_pos rfl]
    simp only [↓EVP0, EVQ0, EVQ1, EVQ2, EVQ3, EVQ4, EVA, EVK, EVF, ↓reduceIte, Nat.reduceEqDiff, Nat.reduceAdd, Nat.reduceSub, Nat.reduceMul, Nat.reduceLT, Nat.reduceLeDiff, reduceCtorEq, Int.reduceToNat, Int.reduceLT, Int.reduceLE, Int.reduceAdd, Int.reduceSub, Int.reduceMul, Int.reduceNeg, Int.reduceEq, Nat.reduceMod, forall_eq_or_imp, forall_eq, forall_const, cond_true, cond_false, decide_true, decide_false, true_imp_iff, implies_true, Int.cast_ofNat_Int, forall_eq']
  intro i v hi _
  cases i with
  | zero =>
    rw [if_pos rfl]
    unfold lb28_1
    simp only [↓EVP0, EVQ0, EVQ1, EVQ2, EVQ3, EVQ4, EVA, EVK, EVF, ↓reduceIte, Nat.reduceEqDiff, Nat.reduceAdd, Nat.reduceSub, Nat.reduceMul, Nat.reduceLT, Nat.reduceLeDiff, reduceCtorEq, Int.reduceToNat, Int.reduceLT, Int.reduceLE, Int.reduceAdd, Int.reduceSub, Int.reduceMul, Int.reduceNeg, Int.reduceEq, Nat.reduceMod, forall_eq_or_imp, forall_eq, forall_const, cond_true, cond_false, decide_true, decide_false, true_imp_iff, implies_true, Int.cast_ofNat_Int, forall_eq']
    refine ⟨fun hg => ?_, fun hg => ?_⟩
    · have hi2 : 0 < p.ns.length := by have := of_decide_eq_true hg; omega
      have hm : p.ns.getD 0 default ∈ p.ns := get_memG default hi2
      have hnk := hN.nod _ hm
      have hnn := node_num hnk
      have hlw := wdsN_len hnk
      have hts : txtNs p (0 + 1) = lineB (wdsN (p.ns.getD 0 default)) := by rw [txtNs_succ hi2]; rfl
      have hp1 := hI (p.ns.getD 0 default).ports ⟨by omega, by omega⟩ (.inl ⟨_, hm, rfl⟩)
      unfold wdsN at hlw hts
      refine ⟨by omega, fun hs => ?_, fun hs => ?_⟩
      · rw [hs, cond_true] at hlw hts
        first | refine qCallK_ro (hp1) ?_ ?_ | refine eCallK_ro (hp1) ?_ ?_
        · simp only [↓EVP0, EVQ0, EVQ1, EVQ2, EVQ3, EVQ4, EVA, EVK, EVF, ↓reduceIte, Nat.reduceEqDiff, Nat.reduceAdd, Nat.reduceSub, Nat.reduceMul, Nat.reduceLT, Nat.reduceLeDiff, reduceCtorEq, Int.reduceToNat, Int.reduceLT, Int.reduceLE, Int.reduceAdd, Int.reduceSub, Int.reduceMul, Int.reduceNeg, Int.reduceEq, Nat.reduceMod, forall_eq_or_imp, forall_eq, forall_const, cond_true, cond_false, decide_true, decide_false, true_imp_iff, implies_true, Int.cast_ofNat_Int, forall_eq']
        simp only [↓EVP0, EVQ0, EVQ1, EVQ2, EVQ3, EVQ4, EVA, EVK, EVF, ↓reduceIte, Nat.reduceEqDiff, Nat.reduceAdd, Nat.reduceSub, Nat.reduceMul, Nat.reduceLT, Nat.reduceLeDiff, reduceCtorEq, Int.reduceToNat, Int.reduceLT, Int.reduceLE, Int.reduceAdd, Int.reduceSub, Int.reduceMul, Int.reduceNeg, Int.reduceEq, Nat.reduceMod, forall_eq_or_imp, forall_eq, forall_const, cond_true, cond_false, decide_true, decide_false, true_imp_iff, implies_true, Int.cast_ofNat_Int, forall_eq']
        refine ⟨_, txs3 _ _ _, by decide, callK_mut (lc_line_new (h := mkH _) (kb := 1) (vb := 0) (by simp [mkH]) rfl [wSwitch, (p.ns.getD 0 default).name, decS (p.ns.getD 0 default).ports.toNat] (by simp) hlw.1 (by omega)) ?_⟩
        unfold bldS bldN
        simp only [↓EVP0, EVQ0, EVQ1, EVQ2, EVQ3, EVQ4, EVA, EVK, EVF, ↓reduceIte, Nat.reduceEqDiff, Nat.reduceAdd, Nat.reduceSub, Nat.reduceMul, Nat.reduceLT, Nat.reduceLeDiff, reduceCtorEq, Int.reduceToNat, Int.reduceLT, Int.reduceLE, Int.reduceAdd, Int.reduceSub, Int.reduceMul, Int.reduceNeg, Int.reduceEq, Nat.reduceMod, forall_eq_or_imp, forall_eq, forall_const, cond_true, cond_false, decide_true, decide_false, true_imp_iff, implies_true, Int.cast_ofNat_Int, forall_eq']
        exact ⟨by unfold In64; omega, hi2, 1, by rw [hts, u8I_len], rfl, ⟨trivial, trivial, trivial, trivial⟩, rfl, by rw [hts]⟩
      · rw [hs, cond_false] at hlw hts
        refine ⟨_, txs2 _ _, by decide, callK_mut (lc_line_new (h := mkH _) (kb := 1) (vb := 0) (by simp [mkH]) rfl [wEnd, (p.ns.getD 0 default).name] (by simp) hlw.1 (by omega)) ?_⟩
        unfold bldS bldN
        simp only [↓EVP0, EVQ0, EVQ1, EVQ2, EVQ3, EVQ4, EVA, EVK, EVF, ↓reduceIte, Nat.reduceEqDiff, Nat.reduceAdd, Nat.reduceSub, Nat.reduceMul, Nat.reduceLT, Nat.reduceLeDiff, reduceCtorEq, Int.reduceToNat, Int.reduceLT, Int.reduceLE, Int.reduceAdd, Int.reduceSub, Int.reduceMul, Int.reduceNeg, Int.reduceEq, Nat.reduceMod, forall_eq_or_imp, forall_eq, forall_const, cond_true, cond_false, decide_true, decide_false, true_imp_iff, implies_true, Int.cast_ofNat_Int, forall_eq']
        exact ⟨by unfold In64; omega, hi2, 1, by rw [hts, u8I_len], rfl, ⟨trivial, trivial, trivial, trivial⟩, rfl, by rw [hts]⟩
    · have hn0 : p.ns.length = 0 := by have := of_decide_eq_false hg; omega
      have hc0 : p.cs = [] := by
        cases hcs : p.cs with
        | nil => rfl
        | cons c r =>
          have := (hV.cab c (by rw [hcs]; simp)).1
          unfold inN at this; omega
      have ef : fmtE p = (⟨#[]⟩, 0) := by
        unfold fmtE txtNs txtCs
        rw [if_pos hv, hn0, hc0]; rfl
      intro _
      rw [hc0]
      refine lwp_for (α := Unit) 0 (fun _ _ => True) (fun _ _ => [(5, .ptr 1 0 0 0 0), (42, .sc (.int .i64 0)), (43, .sc (.int .i64 0))]) (fun _ _ => [(0, .box [.rsl 3 p.ns.length (ndsF p.ns), .rsl 6 ([] : List Cb).length (cbsF [])]), (0, .tbox 70 [.sc (.pointer none), .nsl])]) () trivial ?_ (fun _ _ => Nat.zero_le _) ?_
      · simp only [↓EVP0, EVQ0, EVQ1, EVQ2, EVQ3, EVQ4, EVA, EVK, EVF, ↓reduceIte, Nat.reduceEqDiff, Nat.reduceAdd, Nat.reduceSub, Nat.reduceMul, Nat.reduceLT, Nat.reduceLeDiff, reduceCtorEq, Int.reduceToNat, Int.reduceLT, Int.reduceLE, Int.reduceAdd, Int.reduceSub, Int.reduceMul, Int.reduceNeg, Int.reduceEq, Nat.reduceMod, forall_eq_or_imp, forall_eq, forall_const, cond_true, cond_false, decide_true, decide_false, true_imp_iff, implies_true, Int.cast_ofNat_Int, forall_eq']
      intro i _ hi _
      unfold lb28_0
      simp only [↓EVP0, EVQ0, EVQ1, EVQ2, EVQ3, EVQ4, EVA, EVK, EVF, ↓reduceIte, Nat.reduceEqDiff, Nat.reduceAdd, Nat.reduceSub, Nat.reduceMul, Nat.reduceLT, Nat.reduceLeDiff, reduceCtorEq, Int.reduceToNat, Int.reduceLT, Int.reduceLE, Int.reduceAdd, Int.reduceSub, Int.reduceMul, Int.reduceNeg, Int.reduceEq, Nat.reduceMod, forall_eq_or_imp, forall_eq, forall_const, cond_true, cond_false, decide_true, decide_false, true_imp_iff, implies_true, Int.cast_ofNat_Int, forall_eq']
      refine callK_mut (lc_str_nil (h := mkH _) (kb := 1) (vb := 0) (by simp [mkH]) rfl) ?_
      simp only [↓EVP0, EVQ0, EVQ1, EVQ2, EVQ3, EVQ4, EVA, EVK, EVF, ↓reduceIte, Nat.reduceEqDiff, Nat.reduceAdd, Nat.reduceSub, Nat.reduceMul, Nat.reduceLT, Nat.reduceLeDiff, reduceCtorEq, Int.reduceToNat, Int.reduceLT, Int.reduceLE, Int.reduceAdd, Int.reduceSub, Int.reduceMul, Int.reduceNeg, Int.reduceEq, Nat.reduceMod, forall_eq_or_imp, forall_eq, forall_const, cond_true, cond_false, decide_true, decide_false, true_imp_iff, implies_true, Int.cast_ofNat_Int, forall_eq']
      rw [ef]
      exact ⟨rfl, rfl⟩
  | succ i =>
    rw [if_neg (by omega)]
    unfold lb28_1
    simp only [↓EVP0, EVQ0, EVQ1, EVQ2, EVQ3, EVQ4, EVA, EVK, EVF, ↓reduceIte, Nat.reduceEqDiff, Nat.reduceAdd, Nat.reduceSub, Nat.reduceMul, Nat.reduceLT, Nat.reduceLeDiff, reduceCtorEq, Int.reduceToNat, Int.reduceLT, Int.reduceLE, Int.reduceAdd, Int.reduceSub, Int.reduceMul, Int.reduceNeg, Int.reduceEq, Nat.reduceMod, forall_eq_or_imp, forall_eq, forall_const, cond_true, cond_false, decide_true, decide_false, true_imp_iff, implies_true, Int.cast_ofNat_Int, forall_eq']
    refine ⟨fun hg => ?_, fun hg => ?_⟩
    · have hi2 : i + 1 < p.ns.length := by have := of_decide_eq_true hg; omega
      have hm : p.ns.getD (i + 1) default ∈ p.ns := get_memG default hi2
      have hnk := hN.nod _ hm
      have hnn := node_num hnk
      have hlw := wdsN_len hnk
      have hts := txtNs_succ hi2
      have hp1 := hI (p.ns.getD (i + 1) default).ports ⟨by omega, by omega⟩ (.inl ⟨_, hm, rfl⟩)
      have hlen := txtNs_len hN (i + 1)
      have h16 := hV.n16
      rw [show ((i : Int) + 1).toNat = i + 1 by omega]
      unfold wdsN at hlw hts
      refine ⟨⟨by omega, by omega⟩, fun hs => ?_, fun hs => ?_⟩
      · rw [hs, cond_true] at hlw hts
        first | refine qCallK_ro (hp1) ?_ ?_ | refine eCallK_ro (hp1) ?_ ?_
        · simp only [↓EVP0, EVQ0, EVQ1, EVQ2, EVQ3, EVQ4, EVA, EVK, EVF, ↓reduceIte, Nat.reduceEqDiff, Nat.reduceAdd, Nat.reduceSub, Nat.reduceMul, Nat.reduceLT, Nat.reduceLeDiff, reduceCtorEq, Int.reduceToNat, Int.reduceLT, Int.reduceLE, Int.reduceAdd, Int.reduceSub, Int.reduceMul, Int.reduceNeg, Int.reduceEq, Nat.reduceMod, forall_eq_or_imp, forall_eq, forall_const, cond_true, cond_false, decide_true, decide_false, true_imp_iff, implies_true, Int.cast_ofNat_Int, forall_eq']
        simp only [↓EVP0, EVQ0, EVQ1, EVQ2, EVQ3, EVQ4, EVA, EVK, EVF, ↓reduceIte, Nat.reduceEqDiff, Nat.reduceAdd, Nat.reduceSub, Nat.reduceMul, Nat.reduceLT, Nat.reduceLeDiff, reduceCtorEq, Int.reduceToNat, Int.reduceLT, Int.reduceLE, Int.reduceAdd, Int.reduceSub, Int.reduceMul, Int.reduceNeg, Int.reduceEq, Nat.reduceMod, forall_eq_or_imp, forall_eq, forall_const, cond_true, cond_false, decide_true, decide_false, true_imp_iff, implies_true, Int.cast_ofNat_Int, forall_eq']
        refine ⟨_, txs3 _ _ _, by decide, callK_mut (lc_line_row (h := mkH _) (kb := 1) (vb := 0) (kr := 3) (vr := v) (l := txtNs p (i + 1)) (by simp [mkH]) rfl (by simp [mkH]) rfl (by omega) [wSwitch, (p.ns.getD (i + 1) default).name, decS (p.ns.getD (i + 1) default).ports.toNat] (by simp) hlw.1 (by omega)) ?_⟩
        unfold bldS
        simp only [↓EVP0, EVQ0, EVQ1, EVQ2, EVQ3, EVQ4, EVA, EVK, EVF, ↓reduceIte, Nat.reduceEqDiff, Nat.reduceAdd, Nat.reduceSub, Nat.reduceMul, Nat.reduceLT, Nat.reduceLeDiff, reduceCtorEq, Int.reduceToNat, Int.reduceLT, Int.reduceLE, Int.reduceAdd, Int.reduceSub, Int.reduceMul, Int.reduceNeg, Int.reduceEq, Nat.reduceMod, forall_eq_or_imp, forall_eq, forall_const, cond_true, cond_false, decide_true, decide_false, true_imp_iff, implies_true, Int.cast_ofNat_Int, forall_eq']
        exact ⟨by unfold In64; omega, hi2, v + 1 + 1, by rw [hts, u8I_len], ⟨trivial, trivial, trivial, trivial⟩, rfl, by rw [hts]⟩
      · rw [hs, cond_false] at hlw hts
        refine ⟨_, txs2 _ _, by decide, callK_mut (lc_line_row (h := mkH _) (kb := 1) (vb := 0) (kr := 3) (vr := v) (l := txtNs p (i + 1)) (by simp [mkH]) rfl (by simp [mkH]) rfl (by omega) [wEnd, (p.ns.getD (i + 1) default).name] (by simp) hlw.1 (by omega)) ?_⟩
        unfold bldS
        simp only [↓EVP0, EVQ0, EVQ1, EVQ2, EVQ3, EVQ4, EVA, EVK, EVF, ↓reduceIte, Nat.reduceEqDiff, Nat.reduceAdd, Nat.reduceSub, Nat.reduceMul, Nat.reduceLT, Nat.reduceLeDiff, reduceCtorEq, Int.reduceToNat, Int.reduceLT, Int.reduceLE, Int.reduceAdd, Int.reduceSub, Int.reduceMul, Int.reduceNeg, Int.reduceEq, Nat.reduceMod, forall_eq_or_imp, forall_eq, forall_const, cond_true, cond_false, decide_true, decide_false, true_imp_iff, implies_true, Int.cast_ofNat_Int, forall_eq']
        exact ⟨by unfold In64; omega, hi2, v + 1 + 1, by rw [hts, u8I_len], ⟨trivial, trivial, trivial, trivial⟩, rfl, by rw [hts]⟩
    · have hii : i + 1 = p.ns.length := by have := of_decide_eq_false hg; omega
      rw [hii]
      intro _
      refine lwp_for (α := Nat) p.cs.length (fun _ _ => True) (fun j _ => [(1, .ptr 0 0 0 0 0), (5, .ptr 1 0 0 0 0), (6, .fn 45 [.ptr 1 0 0 0 0]), (41, .rsl 6 p.cs.length (cbsF p.cs)), (42, .sc (.int .i64 p.cs.length)), (43, .sc (.int .i64 j))])
        (fun j v => [(0, .box [.rsl 3 p.ns.length (ndsF p.ns), .rsl 6 p.cs.length (cbsF p.cs)]), (0, .tbox 70 [.ptr 1 0 0 0 0, .sl 3 v 1 0 (txtNs p p.ns.length ++ txtCs p j).length]), (0, .box (ndL (p.ns.getD 0 default))), (v, .byt 5 (u8I (txtNs p p.ns.length ++ txtCs p j)))]) v trivial ?_ (fun _ _ => Nat.zero_le _) ?_
      · have e0 : txtCs p 0 = [] := rfl
        rw [e0, List.append_nil]
        simp only [↓EVP0, EVQ0, EVQ1, EVQ2, EVQ3, EVQ4, EVA, EVK, EVF, ↓reduceIte, Nat.reduceEqDiff, Nat.reduceAdd, Nat.reduceSub, Nat.reduceMul, Nat.reduceLT, Nat.reduceLeDiff, reduceCtorEq, Int.reduceToNat, Int.reduceLT, Int.reduceLE, Int.reduceAdd, Int.reduceSub, Int.reduceMul, Int.reduceNeg, Int.reduceEq, Nat.reduceMod, forall_eq_or_imp, forall_eq, forall_const, cond_true, cond_false, decide_true, decide_false, true_imp_iff, implies_true, Int.cast_ofNat_Int, forall_eq']
        exact ⟨trivial, trivial, trivial, trivial⟩
      intro j v' hj _
      unfold lb28_0
      simp only [↓EVP0, EVQ0, EVQ1, EVQ2, EVQ3, EVQ4, EVA, EVK, EVF, ↓reduceIte, Nat.reduceEqDiff, Nat.reduceAdd, Nat.reduceSub, Nat.reduceMul, Nat.reduceLT, Nat.reduceLeDiff, reduceCtorEq, Int.reduceToNat, Int.reduceLT, Int.reduceLE, Int.reduceAdd, Int.reduceSub, Int.reduceMul, Int.reduceNeg, Int.reduceEq, Nat.reduceMod, forall_eq_or_imp, forall_eq, forall_const, cond_true, cond_false, decide_true, decide_false, true_imp_iff, implies_true, Int.cast_ofNat_Int, forall_eq']
      refine ⟨fun hg => ?_, fun hg => ?_⟩
      · have hj2 : j < p.cs.length := by have := of_decide_eq_true hg; omega
        have hm : p.cs.getD j default ∈ p.cs := get_memG default hj2
        obtain ⟨hab, hna, hnb, hap, hbp, hdl, hcp⟩ := cab_num hN hm
        have hlw := wdsC_len hN hm
        have hts := txtCs_succ hj2
        have hlen := txtNs_len hN p.ns.length
        have hlen2 := txtCs_len hN j
        have h16 := hV.n16
        have h32 := hV.c32
        have q1 := hI (p.cs.getD j default).ap hap (.inr ⟨_, hm, .inl rfl⟩)
        have q2 := hI (p.cs.getD j default).bp hbp (.inr ⟨_, hm, .inr (.inl rfl)⟩)
        have q3 := hI (p.cs.getD j default).dl hdl (.inr ⟨_, hm, .inr (.inr (.inl rfl))⟩)
        have q4 := hI (p.cs.getD j default).cp hcp (.inr ⟨_, hm, .inr (.inr (.inr rfl))⟩)
        unfold wdsC at hlw hts
        generalize p.cs.getD j default = c at *
        refine ⟨⟨by omega, by omega⟩, ⟨hab.1, hab.2.1⟩, ?_⟩
        first | refine qCallK_ro (q1) ?_ ?_ | refine eCallK_ro (q1) ?_ ?_
        · simp only [↓EVP0, EVQ0, EVQ1, EVQ2, EVQ3, EVQ4, EVA, EVK, EVF, ↓reduceIte, Nat.reduceEqDiff, Nat.reduceAdd, Nat.reduceSub, Nat.reduceMul, Nat.reduceLT, Nat.reduceLeDiff, reduceCtorEq, Int.reduceToNat, Int.reduceLT, Int.reduceLE, Int.reduceAdd, Int.reduceSub, Int.reduceMul, Int.reduceNeg, Int.reduceEq, Nat.reduceMod, forall_eq_or_imp, forall_eq, forall_const, cond_true, cond_false, decide_true, decide_false, true_imp_iff, implies_true, Int.cast_ofNat_Int, forall_eq']
        simp only [↓EVP0, EVQ0, EVQ1, EVQ2, EVQ3, EVQ4, EVA, EVK, EVF, ↓reduceIte, Nat.reduceEqDiff, Nat.reduceAdd, Nat.reduceSub, Nat.reduceMul, Nat.reduceLT, Nat.reduceLeDiff, reduceCtorEq, Int.reduceToNat, Int.reduceLT, Int.reduceLE, Int.reduceAdd, Int.reduceSub, Int.reduceMul, Int.reduceNeg, Int.reduceEq, Nat.reduceMod, forall_eq_or_imp, forall_eq, forall_const, cond_true, cond_false, decide_true, decide_false, true_imp_iff, implies_true, Int.cast_ofNat_Int, forall_eq']
        refine ⟨⟨hab.2.2.1, hab.2.2.2⟩, ?_⟩
        first | refine qCallK_ro (q2) ?_ ?_ | refine eCallK_ro (q2) ?_ ?_
        · simp only [↓EVP0, EVQ0, EVQ1, EVQ2, EVQ3, EVQ4, EVA, EVK, EVF, ↓reduceIte, Nat.reduceEqDiff, Nat.reduceAdd, Nat.reduceSub, Nat.reduceMul, Nat.reduceLT, Nat.reduceLeDiff, reduceCtorEq, Int.reduceToNat, Int.reduceLT, Int.reduceLE, Int.reduceAdd, Int.reduceSub, Int.reduceMul, Int.reduceNeg, Int.reduceEq, Nat.reduceMod, forall_eq_or_imp, forall_eq, forall_const, cond_true, cond_false, decide_true, decide_false, true_imp_iff, implies_true, Int.cast_ofNat_Int, forall_eq']
        simp only [↓EVP0, EVQ0, EVQ1, EVQ2, EVQ3, EVQ4, EVA, EVK, EVF, ↓reduceIte, Nat.reduceEqDiff, Nat.reduceAdd, Nat.reduceSub, Nat.reduceMul, Nat.reduceLT, Nat.reduceLeDiff, reduceCtorEq, Int.reduceToNat, Int.reduceLT, Int.reduceLE, Int.reduceAdd, Int.reduceSub, Int.reduceMul, Int.reduceNeg, Int.reduceEq, Nat.reduceMod, forall_eq_or_imp, forall_eq, forall_const, cond_true, cond_false, decide_true, decide_false, true_imp_iff, implies_true, Int.cast_ofNat_Int, forall_eq']
        first | refine qCallK_ro (q3) ?_ ?_ | refine eCallK_ro (q3) ?_ ?_
        · simp only [↓EVP0, EVQ0, EVQ1, EVQ2, EVQ3, EVQ4, EVA, EVK, EVF, ↓reduceIte, Nat.reduceEqDiff, Nat.reduceAdd, Nat.reduceSub, Nat.reduceMul, Nat.reduceLT, Nat.reduceLeDiff, reduceCtorEq, Int.reduceToNat, Int.reduceLT, Int.reduceLE, Int.reduceAdd, Int.reduceSub, Int.reduceMul, Int.reduceNeg, Int.reduceEq, Nat.reduceMod, forall_eq_or_imp, forall_eq, forall_const, cond_true, cond_false, decide_true, decide_false, true_imp_iff, implies_true, Int.cast_ofNat_Int, forall_eq']
        simp only [↓EVP0, EVQ0, EVQ1, EVQ2, EVQ3, EVQ4, EVA, EVK, EVF, ↓reduceIte, Nat.reduceEqDiff, Nat.reduceAdd, Nat.reduceSub, Nat.reduceMul, Nat.reduceLT, Nat.reduceLeDiff, reduceCtorEq, Int.reduceToNat, Int.reduceLT, Int.reduceLE, Int.reduceAdd, Int.reduceSub, Int.reduceMul, Int.reduceNeg, Int.reduceEq, Nat.reduceMod, forall_eq_or_imp, forall_eq, forall_const, cond_true, cond_false, decide_true, decide_false, true_imp_iff, implies_true, Int.cast_ofNat_Int, forall_eq']
        first | refine qCallK_ro (q4) ?_ ?_ | refine eCallK_ro (q4) ?_ ?_
        · simp only [↓EVP0, EVQ0, EVQ1, EVQ2, EVQ3, EVQ4, EVA, EVK, EVF, ↓reduceIte, Nat.reduceEqDiff, Nat.reduceAdd, Nat.reduceSub, Nat.reduceMul, Nat.reduceLT, Nat.reduceLeDiff, reduceCtorEq, Int.reduceToNat, Int.reduceLT, Int.reduceLE, Int.reduceAdd, Int.reduceSub, Int.reduceMul, Int.reduceNeg, Int.reduceEq, Nat.reduceMod, forall_eq_or_imp, forall_eq, forall_const, cond_true, cond_false, decide_true, decide_false, true_imp_iff, implies_true, Int.cast_ofNat_Int, forall_eq']
        simp only [↓EVP0, EVQ0, EVQ1, EVQ2, EVQ3, EVQ4, EVA, EVK, EVF, ↓reduceIte, Nat.reduceEqDiff, Nat.reduceAdd, Nat.reduceSub, Nat.reduceMul, Nat.reduceLT, Nat.reduceLeDiff, reduceCtorEq, Int.reduceToNat, Int.reduceLT, Int.reduceLE, Int.reduceAdd, Int.reduceSub, Int.reduceMul, Int.reduceNeg, Int.reduceEq, Nat.reduceMod, forall_eq_or_imp, forall_eq, forall_const, cond_true, cond_false, decide_true, decide_false, true_imp_iff, implies_true, Int.cast_ofNat_Int, forall_eq']
        refine ⟨_, txs7 _ _ _ _ _ _ _, by decide, callK_mut (lc_line_row (h := mkH _) (kb := 1) (vb := 0) (kr := 3) (vr := v') (l := txtNs p p.ns.length ++ txtCs p j) (by simp [mkH]) rfl (by simp [mkH]) rfl (by omega) [wCable, (p.ns.getD c.a.toNat default).name, decS c.ap.toNat, (p.ns.getD c.b.toNat default).name, decS c.bp.toNat, decS c.dl.toNat, decS c.cp.toNat] (by simp) hlw.1 (by rw [List.length_append]; omega)) ?_⟩
        unfold bldS
        simp only [↓EVP0, EVQ0, EVQ1, EVQ2, EVQ3, EVQ4, EVA, EVK, EVF, ↓reduceIte, Nat.reduceEqDiff, Nat.reduceAdd, Nat.reduceSub, Nat.reduceMul, Nat.reduceLT, Nat.reduceLeDiff, reduceCtorEq, Int.reduceToNat, Int.reduceLT, Int.reduceLE, Int.reduceAdd, Int.reduceSub, Int.reduceMul, Int.reduceNeg, Int.reduceEq, Nat.reduceMod, forall_eq_or_imp, forall_eq, forall_const, cond_true, cond_false, decide_true, decide_false, true_imp_iff, implies_true, Int.cast_ofNat_Int, forall_eq']
        rw [List.append_assoc, ← hts]
        exact ⟨by unfold In64; omega, hj2, v' + 1 + 1, by rw [u8I_len], ⟨trivial, trivial, trivial, trivial⟩, rfl, rfl⟩
      · have hjj : j = p.cs.length := by have := of_decide_eq_false hg; omega
        rw [hjj]
        have hne : txtNs p p.ns.length ++ txtCs p p.cs.length ≠ [] := by
          rw [← hii, txtNs_succ (by omega)]
          unfold lineB
          simp
        refine callK_mut (lc_str_row (h := mkH _) (kb := 1) (vb := 0) (kr := 3) (vr := v') (by simp [mkH]) rfl (by simp [mkH]) rfl hne) ?_
        simp only [↓EVP0, EVQ0, EVQ1, EVQ2, EVQ3, EVQ4, EVA, EVK, EVF, ↓reduceIte, Nat.reduceEqDiff, Nat.reduceAdd, Nat.reduceSub, Nat.reduceMul, Nat.reduceLT, Nat.reduceLeDiff, reduceCtorEq, Int.reduceToNat, Int.reduceLT, Int.reduceLE, Int.reduceAdd, Int.reduceSub, Int.reduceMul, Int.reduceNeg, Int.reduceEq, Nat.reduceMod, forall_eq_or_imp, forall_eq, forall_const, cond_true, cond_false, decide_true, decide_false, true_imp_iff, implies_true, Int.cast_ofNat_Int, forall_eq']
        unfold fmtE
        rw [if_pos hv]
        exact ⟨rfl, rfl⟩
end Go.Proofs.YtchpncmmlhfemaaDoor
namespace Go.Proofs.YtchpncmmlhfemaaDoor
set_option linter.unusedSimpArgs false
set_option linter.unusedVariables false
open Go.RowKit
set_option maxRecDepth 20000

theorem drop_getG {α : Type} (d : α) {l : List α} {i : Nat} (h : i < l.length) : l.drop i = l.getD i d :: l.drop (i + 1) := by
  rw [List.drop_eq_getElem_cons h, List.getD_eq_getElem?_getD, List.getElem?_eq_getElem h]; rfl
theorem condF (x y : Bool) : (bif x then y else false) = (x && y) := by cases x <;> rfl
def nbrGo (x y : Int) : List Cb → Int → Int × Int × Int × Bool
  | [], _ => (-1, -1, -1, false)
  | c :: r, i => bif decide (c.a = x) && decide (c.ap = y) then (c.b, c.bp, i, true) else bif decide (c.b = x) && decide (c.bp = y) then (c.a, c.ap, i, true) else nbrGo x y r (i + 1)
theorem nbrGo_cons (x y : Int) (c : Cb) (r : List Cb) (i : Int) : nbrGo x y (c :: r) i = bif decide (c.a = x) && decide (c.ap = y) then (c.b, c.bp, i, true) else bif decide (c.b = x) && decide (c.bp = y) then (c.a, c.ap, i, true) else nbrGo x y r (i + 1) := rfl
def nbrE (p : Pl) (x y : Int) : Int × Int × Int × Bool := if validE p = 0 then nbrGo x y p.cs 0 else (-1, -1, -1, false)
theorem ev_neighbor (p : Pl) (hp : PlOk p) (x y : Int) : Ev Tryd.prog 18 [plV p, .sc (.int .i64 x), .sc (.int .i64 y)] (.tup [.sc (.int .i64 (nbrE p x y).1), .sc (.int .i64 (nbrE p x y).2.1), .sc (.int .i64 (nbrE p x y).2.2.1), .sc (.bool (nbrE p x y).2.2.2)]) := by
  have h1 := ev_valid p hp
  unfold plV at *
  refine ev_fn Tryd.func18 comp18 (show 3 ≤ Tryd.f18.ntmps by decide) ?_; unfold cf18 rf18; simp only [↓EVP0, EVQ0, EVQ1, EVQ2, EVQ3, EVQ4, EVA, EVK, EVF, ↓reduceIte, Nat.reduceEqDiff, Nat.reduceAdd, Nat.reduceSub, Nat.reduceMul, Nat.reduceLT, Nat.reduceLeDiff, reduceCtorEq, Int.reduceToNat, Int.reduceLT, Int.reduceLE, Int.reduceAdd, Int.reduceSub, Int.reduceMul, Int.reduceNeg, Int.reduceEq, Nat.reduceMod, forall_eq_or_imp, forall_eq, forall_const, cond_true, cond_false, decide_true, decide_false, true_imp_iff, implies_true, Int.cast_ofNat_Int, forall_eq']
  refine callK_ro (h1) ?_ ?_
  · simp only [↓EVP0, EVQ0, EVQ1, EVQ2, EVQ3, EVQ4, EVA, EVK, EVF, ↓reduceIte, Nat.reduceEqDiff, Nat.reduceAdd, Nat.reduceSub, Nat.reduceMul, Nat.reduceLT, Nat.reduceLeDiff, reduceCtorEq, Int.reduceToNat, Int.reduceLT, Int.reduceLE, Int.reduceAdd, Int.reduceSub, Int.reduceMul, Int.reduceNeg, Int.reduceEq, Nat.reduceMod, forall_eq_or_imp, forall_eq, forall_const, cond_true, cond_false, decide_true, decide_false, true_imp_iff, implies_true, Int.cast_ofNat_Int, forall_eq']
  simp only [↓EVP0, EVQ0, EVQ1, EVQ2, EVQ3, EVQ4, EVA, EVK, EVF, ↓reduceIte, Nat.reduceEqDiff, Nat.reduceAdd, Nat.reduceSub, Nat.reduceMul, Nat.reduceLT, Nat.reduceLeDiff, reduceCtorEq, Int.reduceToNat, Int.reduceLT, Int.reduceLE, Int.reduceAdd, Int.reduceSub, Int.reduceMul, Int.reduceNeg, Int.reduceEq, Nat.reduceMod, forall_eq_or_imp, forall_eq, forall_const, cond_true, cond_false, decide_true, decide_false, true_imp_iff, implies_true, Int.cast_ofNat_Int, forall_eq']
  refine ⟨fun hg => ?_, fun hg => ?_⟩
  · have hv : validE p = 0 := of_decide_eq_true hg
    intro _
    refine lwp_for (α := Unit) p.cs.length (fun i _ => nbrE p x y = nbrGo x y (p.cs.drop i) i) (fun i _ => [(1, .sc (.int .i64 x)), (2, .sc (.int .i64 y)), (16, .rsl 6 p.cs.length (cbsF p.cs)), (17, .sc (.int .i64 p.cs.length)), (18, .sc (.int .i64 i))]) (fun _ _ => []) () (by unfold nbrE; rw [if_pos hv]; rfl) ?_ (fun _ _ => Nat.zero_le _) ?_
    · simp only [↓EVP0, EVQ0, EVQ1, EVQ2, EVQ3, EVQ4, EVA, EVK, EVF, ↓reduceIte, Nat.reduceEqDiff, Nat.reduceAdd, Nat.reduceSub, Nat.reduceMul, Nat.reduceLT, Nat.reduceLeDiff, reduceCtorEq, Int.reduceToNat, Int.reduceLT, Int.reduceLE, Int.reduceAdd, Int.reduceSub, Int.reduceMul, Int.reduceNeg, Int.reduceEq, Nat.reduceMod, forall_eq_or_imp, forall_eq, forall_const, cond_true, cond_false, decide_true, decide_false, true_imp_iff, implies_true, Int.cast_ofNat_Int, forall_eq']
    intro i _ hi hx
    unfold lb18_0
    simp only [↓EVP0, EVQ0, EVQ1, EVQ2, EVQ3, EVQ4, EVA, EVK, EVF, ↓reduceIte, Nat.reduceEqDiff, Nat.reduceAdd, Nat.reduceSub, Nat.reduceMul, Nat.reduceLT, Nat.reduceLeDiff, reduceCtorEq, Int.reduceToNat, Int.reduceLT, Int.reduceLE, Int.reduceAdd, Int.reduceSub, Int.reduceMul, Int.reduceNeg, Int.reduceEq, Nat.reduceMod, forall_eq_or_imp, forall_eq, forall_const, cond_true, cond_false, decide_true, decide_false, true_imp_iff, implies_true, Int.cast_ofNat_Int, forall_eq']
    refine ⟨fun hg => ?_, fun hg => ?_⟩
    · have hi2 : i < p.cs.length := by have := of_decide_eq_true hg; omega
      rw [drop_getG default hi2, nbrGo_cons] at hx
      generalize p.cs.getD i default = c at *
      rw [condF, condF]
      refine ⟨⟨by omega, by omega⟩, fun h => ?_, fun h => ⟨fun h2 => ?_, fun h2 => ⟨by unfold In64; omega, hi2, (), ?_⟩⟩⟩
      · rw [h] at hx; rw [hx]; exact ⟨rfl, rfl, rfl, rfl⟩
      · rw [h, h2] at hx; rw [hx]; exact ⟨rfl, rfl, rfl, rfl⟩
      · rw [h, h2] at hx; exact hx
    · have hii : i = p.cs.length := by have := of_decide_eq_false hg; omega
      rw [hii, List.drop_length] at hx
      rw [hx]
      exact ⟨rfl, rfl, rfl, rfl⟩
  · have hv : ¬ validE p = 0 := of_decide_eq_false hg
    have e : nbrE p x y = (-1, -1, -1, false) := by unfold nbrE; rw [if_neg hv]
    rw [e]
    exact ⟨rfl, rfl, rfl, rfl⟩
def exPl : Pl := ⟨[⟨⟨#[115, 49]⟩, true, 2⟩, ⟨⟨#[101, 49]⟩, false, 1⟩], [⟨0, 1, 1, 0, 1, 4⟩]⟩
theorem ev_exPl : Ev Tryd.prog 35 [] (plV exPl) := by
  unfold plV exPl
  refine ev_fn Tryd.func35 comp35 (show 0 ≤ Tryd.f35.ntmps by decide) ?_; unfold cf35 rf35; simp only [↓EVP0, EVQ0, EVQ1, EVQ2, EVQ3, EVQ4, EVA, EVK, EVF, ↓reduceIte, Nat.reduceEqDiff, Nat.reduceAdd, Nat.reduceSub, Nat.reduceMul, Nat.reduceLT, Nat.reduceLeDiff, reduceCtorEq, Int.reduceToNat, Int.reduceLT, Int.reduceLE, Int.reduceAdd, Int.reduceSub, Int.reduceMul, Int.reduceNeg, Int.reduceEq, Nat.reduceMod, forall_eq_or_imp, forall_eq, forall_const, cond_true, cond_false, decide_true, decide_false, true_imp_iff, implies_true, Int.cast_ofNat_Int, forall_eq']
  refine ⟨⟨fun i hi => ?_, fun i hi => ?_⟩, fun i hi => ?_, fun i hi => ?_⟩
  · obtain rfl | rfl : i = 0 ∨ i = 1 := by omega
    all_goals rfl
  · obtain rfl | rfl : i = 0 ∨ i = 1 := by omega
    all_goals rfl
  · obtain rfl : i = 0 := by omega
    rfl
  · obtain rfl : i = 0 := by omega
    rfl
end Go.Proofs.YtchpncmmlhfemaaDoor
namespace Go.Proofs.YtchpncmmlhfemaaDoor
set_option linter.unusedSimpArgs false
set_option linter.unusedVariables false
open Go.RowKit
set_option maxRecDepth 20000

def rowsF (P : List (List Int)) (i : Nat) : List LV := [intsV (P.getD i [])]
def rowsV (P : List (List Int)) : LV := .rsl 1 P.length (rowsF P)
def parT (n : Nat) (U : List Cb) (f k : Nat) : List Int := ((List.range k).filter fun (v : Nat) => decide (0 ≤ distX n U (f : Int) (v : Int))).map fun (v : Nat) => (v : Int)
def seeT (S : List Bool) (n : Nat) (U : List Cb) (f k : Nat) : List Bool := (List.range S.length).map fun (v : Nat) => S.getD v false || (decide (v < k) && decide (0 ≤ distX n U (f : Int) (v : Int)))
def goP (n : Nat) (U : List Cb) : Nat → List Bool × List (List Int)
  | 0 => (List.replicate n false, [])
  | f + 1 => if (goP n U f).1.getD f false = true then goP n U f else (seeT (goP n U f).1 n U f n, (goP n U f).2 ++ [parT n U f n])
def partsE (p : Pl) (up : List Bool) : List (List Int) := if usableB p up = true then (goP p.ns.length (upU p.cs up) p.ns.length).2 else []
theorem parT_succ (n : Nat) (U : List Cb) (f k : Nat) : parT n U f (k + 1) = parT n U f k ++ if 0 ≤ distX n U (f : Int) (k : Int) then [(k : Int)] else [] := by
  unfold parT
  rw [List.range_succ, List.filter_append, List.map_append]
  by_cases h : 0 ≤ distX n U (f : Int) (k : Int) <;> simp [h]
theorem seeT_len (S : List Bool) (n : Nat) (U : List Cb) (f k : Nat) : (seeT S n U f k).length = S.length := by simp [seeT]
theorem goP_len (n : Nat) (U : List Cb) : ∀ f, (goP n U f).1.length = n
  | 0 => by simp [goP]
  | f + 1 => by
    unfold goP
    split
    · exact goP_len n U f
    · rw [seeT_len]; exact goP_len n U f
theorem seeT_zero (S : List Bool) (n : Nat) (U : List Cb) (f : Nat) : seeT S n U f 0 = S := by
  apply List.ext_getElem
  · simp [seeT]
  · intro i h1 h2
    simp only [seeT, List.getElem_map, List.getElem_range, Nat.not_lt_zero, decide_false, Bool.false_and, Bool.or_false]
    rw [List.getD_eq_getElem?_getD, List.getElem?_eq_getElem h2]; rfl
theorem seeT_succ {S : List Bool} {n : Nat} {U : List Cb} {f k : Nat} (hk : k < S.length) (h : 0 ≤ distX n U (f : Int) (k : Int)) : seeT S n U f (k + 1) = (seeT S n U f k).set k true := by
  apply List.ext_getElem
  · simp [seeT]
  · intro i h1 h2
    have hi : i < S.length := by simpa [seeT] using h1
    rw [List.getElem_set]
    simp only [seeT, List.getElem_map, List.getElem_range]
    by_cases e : k = i
    · subst e; simp [h]
    · rw [if_neg e]
      congr 2
      exact decide_eq_decide.2 (by omega)
theorem seeT_skip {S : List Bool} {n : Nat} {U : List Cb} {f k : Nat} (h : ¬ 0 ≤ distX n U (f : Int) (k : Int)) : seeT S n U f (k + 1) = seeT S n U f k := by
  apply List.ext_getElem
  · simp [seeT]
  · intro i h1 h2
    simp only [seeT, List.getElem_map, List.getElem_range]
    congr 1
    by_cases e : i = k
    · subst e; simp [h]
    · rw [show decide (i < k + 1) = decide (i < k) from decide_eq_decide.2 (by omega)]
theorem lwp_frzO {P : Program} {s : LS} {h : LH} {nb : Nat} {a b : LC} {K : LS → LH → Prop} {E : Nat → LS → LH → Prop} {T : LS → LH → Prop} (D : List Nat) (t : Nat) (v : LV)
    (h1 : lwp P nb a (fun s h => (roTo2 h (s t) v ∧ hd2 D h (s t)) ∧ lwp P nb b K E T (upd s t v) (killH h D)) E T s h) : @lwpJ P nb a b ⟨K, E, T⟩ s h :=
  lwp_frz D [(t, v)] (lwp_mono_k (c := a) h1 fun _ _ ⟨⟨h2, h3⟩, h4⟩ => ⟨⟨h2, h3, trivial⟩, h4⟩)
theorem parT_ne {n : Nat} {U : List Cb} (hU : CabN n U) {f : Nat} (hf : inN n (f : Int)) : parT n U f n ≠ [] := by
  have h0 : distX n U (f : Int) (f : Int) = 0 := by
    have := distX_of hU hf (k := 0) (x := (f : Int)) (by simp [W]) (fun j hj => by omega)
    simpa using this
  have : (f : Int) ∈ parT n U f n := by
    unfold parT inN at *
    refine List.mem_map.2 ⟨f, List.mem_filter.2 ⟨List.mem_range.2 (by omega), ?_⟩, rfl⟩
    rw [h0]; rfl
  intro h
  rw [h] at this; simp at this
theorem parT_len (n : Nat) (U : List Cb) (f k : Nat) : (parT n U f k).length ≤ k := by
  unfold parT
  rw [List.length_map]
  have := List.length_filter_le (fun (v : Nat) => decide (0 ≤ distX n U (f : Int) (v : Int))) (List.range k)
  simpa using this
theorem getD_app0 {l : List Int} {x : Int} (h : 0 < l.length) : (l ++ [x]).getD 0 0 = l.getD 0 0 := by
  rw [List.getD_eq_getElem?_getD, List.getElem?_append_left h, List.getD_eq_getElem?_getD]
theorem goP_step {n : Nat} {U : List Cb} {f : Nat} (h : ¬ (goP n U f).1.getD f false = true) : goP n U (f + 1) = (seeT (goP n U f).1 n U f n, (goP n U f).2 ++ [parT n U f n]) := by
  show (if _ then _ else _) = _
  rw [if_neg h]
theorem goP_rows (n : Nat) (U : List Cb) : ∀ f, (goP n U f).2.length ≤ f
  | 0 => Nat.le_refl _
  | f + 1 => by
    have := goP_rows n U f
    unfold goP
    split
    · omega
    · rw [List.length_append, List.length_singleton]; omega
theorem rowsF_app (P : List (List Int)) (q : List Int) : rowsF (P ++ [q]) = fun i => if i < P.length then rowsF P i else rowsF [q] (i - P.length) := by
  funext i
  unfold rowsF
  by_cases h : i < P.length
  · rw [if_pos h, List.getD_eq_getElem?_getD, List.getElem?_append_left h, List.getD_eq_getElem?_getD]
  · rw [if_neg h, List.getD_eq_getElem?_getD, List.getElem?_append_right (by omega), List.getD_eq_getElem?_getD]
theorem ev_parts (p : Pl) (hp : PlOk p) (up : List Bool) : Ev Tryd.prog 16 [plV p, boolsV up] (rowsV (partsE p up)) := by
  have h1 := ev_usable p hp up
  unfold plV boolsV rowsV at *
  refine ev_fn Tryd.func16 comp16 (show 2 ≤ Tryd.f16.ntmps by decide) ?_; unfold cf16 rf16; simp only [↓EVP0, EVQ0, EVQ1, EVQ2, EVQ3, EVQ4, EVA, EVK, EVF, ↓reduceIte, Nat.reduceEqDiff, Nat.reduceAdd, Nat.reduceSub, Nat.reduceMul, Nat.reduceLT, Nat.reduceLeDiff, reduceCtorEq, Int.reduceToNat, Int.reduceLT, Int.reduceLE, Int.reduceAdd, Int.reduceSub, Int.reduceMul, Int.reduceNeg, Int.reduceEq, Nat.reduceMod, forall_eq_or_imp, forall_eq, forall_const, cond_true, cond_false, decide_true, decide_false, true_imp_iff, implies_true, Int.cast_ofNat_Int, forall_eq']
  refine callK_ro (h1) ?_ ?_
  · simp only [↓EVP0, EVQ0, EVQ1, EVQ2, EVQ3, EVQ4, EVA, EVK, EVF, ↓reduceIte, Nat.reduceEqDiff, Nat.reduceAdd, Nat.reduceSub, Nat.reduceMul, Nat.reduceLT, Nat.reduceLeDiff, reduceCtorEq, Int.reduceToNat, Int.reduceLT, Int.reduceLE, Int.reduceAdd, Int.reduceSub, Int.reduceMul, Int.reduceNeg, Int.reduceEq, Nat.reduceMod, forall_eq_or_imp, forall_eq, forall_const, cond_true, cond_false, decide_true, decide_false, true_imp_iff, implies_true, Int.cast_ofNat_Int, forall_eq']
  simp only [↓EVP0, EVQ0, EVQ1, EVQ2, EVQ3, EVQ4, EVA, EVK, EVF, ↓reduceIte, Nat.reduceEqDiff, Nat.reduceAdd, Nat.reduceSub, Nat.reduceMul, Nat.reduceLT, Nat.reduceLeDiff, reduceCtorEq, Int.reduceToNat, Int.reduceLT, Int.reduceLE, Int.reduceAdd, Int.reduceSub, Int.reduceMul, Int.reduceNeg, Int.reduceEq, Nat.reduceMod, forall_eq_or_imp, forall_eq, forall_const, cond_true, cond_false, decide_true, decide_false, true_imp_iff, implies_true, Int.cast_ofNat_Int, forall_eq']
  refine ⟨fun hg => ?_, fun hg => ?_⟩
  · have e : partsE p up = [] := by unfold partsE; rw [if_neg (by simpa using hg)]
    rw [e]; exact rfl
  have hu : usableB p up = true := by simpa using hg
  have e : partsE p up = (goP p.ns.length (upU p.cs up) p.ns.length).2 := by unfold partsE; rw [if_pos hu]
  rw [e]
  unfold usableB at hu
  simp only [Bool.and_eq_true, decide_eq_true_eq] at hu
  obtain ⟨hv, hup⟩ := hu
  have hV := valid_of hv
  have h16 := hV.n16
  intro _
  refine ⟨⟨by omega, by omega, by omega, by omega⟩, fun _ => ?_⟩
  refine lwp_for (α := Nat × Nat) p.ns.length (fun _ _ => True) (fun f x => [(1, .rsl 1 up.length (boolsF up)), (2, .ptr 0 0 0 0 0), (5, if f = 0 then .nsl else .sl 4 x.1 1 0 (goP p.ns.length (upU p.cs up) f).2.length), (6, .sl 1 0 1 0 p.ns.length), (21, .sc (.int .i64 p.ns.length)), (22, .sc (.int .i64 f))])
    (fun f x => if f = 0 then [(0, .box [.rsl 3 p.ns.length (ndsF p.ns), .rsl 6 p.cs.length (cbsF p.cs)]), (0, .bools (List.replicate p.ns.length false))] else
      [(0, .box [.rsl 3 p.ns.length (ndsF p.ns), .rsl 6 p.cs.length (cbsF p.cs)]), (0, .bools (goP p.ns.length (upU p.cs up) f).1), (0, .dead), (x.2, .dead), (x.1, .row 1 (goP p.ns.length (upU p.cs up) f).2.length (rowsF (goP p.ns.length (upU p.cs up) f).2))]) (0, 0) trivial ?_ (fun _ _ => Nat.zero_le _) ?_
  · simp only [if_true]
    simp only [↓EVP0, EVQ0, EVQ1, EVQ2, EVQ3, EVQ4, EVA, EVK, EVF, ↓reduceIte, Nat.reduceEqDiff, Nat.reduceAdd, Nat.reduceSub, Nat.reduceMul, Nat.reduceLT, Nat.reduceLeDiff, reduceCtorEq, Int.reduceToNat, Int.reduceLT, Int.reduceLE, Int.reduceAdd, Int.reduceSub, Int.reduceMul, Int.reduceNeg, Int.reduceEq, Nat.reduceMod, forall_eq_or_imp, forall_eq, forall_const, cond_true, cond_false, decide_true, decide_false, true_imp_iff, implies_true, Int.cast_ofNat_Int, forall_eq']
  rintro f ⟨v, dv⟩ hf _
  cases f with
  | zero =>
    simp only [if_true]
    unfold lb16_1
    simp only [↓EVP0, EVQ0, EVQ1, EVQ2, EVQ3, EVQ4, EVA, EVK, EVF, ↓reduceIte, Nat.reduceEqDiff, Nat.reduceAdd, Nat.reduceSub, Nat.reduceMul, Nat.reduceLT, Nat.reduceLeDiff, reduceCtorEq, Int.reduceToNat, Int.reduceLT, Int.reduceLE, Int.reduceAdd, Int.reduceSub, Int.reduceMul, Int.reduceNeg, Int.reduceEq, Nat.reduceMod, forall_eq_or_imp, forall_eq, forall_const, cond_true, cond_false, decide_true, decide_false, true_imp_iff, implies_true, Int.cast_ofNat_Int, forall_eq']
    refine ⟨fun hg => ?_, fun hg => ?_⟩
    · have hf2 : 0 < p.ns.length := by have := of_decide_eq_true hg; omega
      have hin : inN p.ns.length 0 := ⟨by omega, by omega⟩
      refine ⟨by omega, by simp; omega, fun h => ?_, fun h => ?_⟩
      · rw [List.getD_eq_getElem?_getD, List.getElem?_replicate] at h
        split at h <;> simp at h
      refine lwp_frzO [2, 3] 8 (.rsl 1 (parT p.ns.length (upU p.cs up) 0 p.ns.length).length (intsF (parT p.ns.length (upU p.cs up) 0 p.ns.length))) ?_
      simp only [↓EVP0, EVQ0, EVQ1, EVQ2, EVQ3, EVQ4, EVA, EVK, EVF, ↓reduceIte, Nat.reduceEqDiff, Nat.reduceAdd, Nat.reduceSub, Nat.reduceMul, Nat.reduceLT, Nat.reduceLeDiff, reduceCtorEq, Int.reduceToNat, Int.reduceLT, Int.reduceLE, Int.reduceAdd, Int.reduceSub, Int.reduceMul, Int.reduceNeg, Int.reduceEq, Nat.reduceMod, forall_eq_or_imp, forall_eq, forall_const, cond_true, cond_false, decide_true, decide_false, true_imp_iff, implies_true, Int.cast_ofNat_Int, forall_eq']
      have hd := ev_distances p up 0 hV.n16 hV.c32 hV.cab hin hup
      unfold plV boolsV intsV at hd
      refine callK_ro (hd) ?_ ?_
      · simp only [↓EVP0, EVQ0, EVQ1, EVQ2, EVQ3, EVQ4, EVA, EVK, EVF, ↓reduceIte, Nat.reduceEqDiff, Nat.reduceAdd, Nat.reduceSub, Nat.reduceMul, Nat.reduceLT, Nat.reduceLeDiff, reduceCtorEq, Int.reduceToNat, Int.reduceLT, Int.reduceLE, Int.reduceAdd, Int.reduceSub, Int.reduceMul, Int.reduceNeg, Int.reduceEq, Nat.reduceMod, forall_eq_or_imp, forall_eq, forall_const, cond_true, cond_false, decide_true, decide_false, true_imp_iff, implies_true, Int.cast_ofNat_Int, forall_eq']
      simp only [↓EVP0, EVQ0, EVQ1, EVQ2, EVQ3, EVQ4, EVA, EVK, EVF, ↓reduceIte, Nat.reduceEqDiff, Nat.reduceAdd, Nat.reduceSub, Nat.reduceMul, Nat.reduceLT, Nat.reduceLeDiff, reduceCtorEq, Int.reduceToNat, Int.reduceLT, Int.reduceLE, Int.reduceAdd, Int.reduceSub, Int.reduceMul, Int.reduceNeg, Int.reduceEq, Nat.reduceMod, forall_eq_or_imp, forall_eq, forall_const, cond_true, cond_false, decide_true, decide_false, true_imp_iff, implies_true, Int.cast_ofNat_Int, forall_eq']
      have hdl : (distL p.ns.length (upU p.cs up) 0).length = p.ns.length := by simp [distL]
      have hdg : ∀ k : Nat, k < p.ns.length → (distL p.ns.length (upU p.cs up) 0).getD k 0 = distX p.ns.length (upU p.cs up) 0 (k : Int) := by
        intro k hk
        rw [List.getD_eq_getElem?_getD, distL, List.getElem?_map, List.getElem?_range hk]; rfl
      rw [hdl]
      intro _
      refine lwp_for (α := Unit) p.ns.length (fun _ _ => True) (fun k _ => [(1, .rsl 1 up.length (boolsF up)), (2, .ptr 0 0 0 0 0), (5, .nsl), (6, .sl 1 0 1 0 p.ns.length), (8, if parT p.ns.length (upU p.cs up) 0 k = [] then .nsl else .sl 3 ((parT p.ns.length (upU p.cs up) 0 k).length - 1) 1 0 (parT p.ns.length (upU p.cs up) 0 k).length), (21, .sc (.int .i64 p.ns.length)), (22, .sc (.int .i64 0)), (32, .rsl 1 p.ns.length (intsF (distL p.ns.length (upU p.cs up) 0))), (33, .sc (.int .i64 p.ns.length)), (34, .sc (.int .i64 k))])
        (fun k _ => if parT p.ns.length (upU p.cs up) 0 k = [] then [(0, .box [.rsl 3 p.ns.length (ndsF p.ns), .rsl 6 p.cs.length (cbsF p.cs)]), (0, .bools (seeT (List.replicate p.ns.length false) p.ns.length (upU p.cs up) 0 k))] else [(0, .box [.rsl 3 p.ns.length (ndsF p.ns), .rsl 6 p.cs.length (cbsF p.cs)]), (0, .bools (seeT (List.replicate p.ns.length false) p.ns.length (upU p.cs up) 0 k)), (0, .ints [(parT p.ns.length (upU p.cs up) 0 k).getD 0 0]), ((parT p.ns.length (upU p.cs up) 0 k).length - 1, .ints (parT p.ns.length (upU p.cs up) 0 k))]) () trivial ?_ (fun _ _ => Nat.zero_le _) ?_
      · rw [show parT p.ns.length (upU p.cs up) 0 0 = [] from rfl, seeT_zero]
        simp only [if_true]
        simp only [↓EVP0, EVQ0, EVQ1, EVQ2, EVQ3, EVQ4, EVA, EVK, EVF, ↓reduceIte, Nat.reduceEqDiff, Nat.reduceAdd, Nat.reduceSub, Nat.reduceMul, Nat.reduceLT, Nat.reduceLeDiff, reduceCtorEq, Int.reduceToNat, Int.reduceLT, Int.reduceLE, Int.reduceAdd, Int.reduceSub, Int.reduceMul, Int.reduceNeg, Int.reduceEq, Nat.reduceMod, forall_eq_or_imp, forall_eq, forall_const, cond_true, cond_false, decide_true, decide_false, true_imp_iff, implies_true, Int.cast_ofNat_Int, forall_eq']
      intro k _ hk _
      have hsl : (seeT (List.replicate p.ns.length false) p.ns.length (upU p.cs up) 0 k).length = p.ns.length := by rw [seeT_len]; simp
      have hps : parT p.ns.length (upU p.cs up) 0 (k + 1) = parT p.ns.length (upU p.cs up) 0 k ++ if 0 ≤ distX p.ns.length (upU p.cs up) 0 (k : Int) then [(k : Int)] else [] := parT_succ p.ns.length (upU p.cs up) 0 k
      have hpn : parT p.ns.length (upU p.cs up) 0 p.ns.length ≠ [] := parT_ne (upU_in hV.cab) (show inN p.ns.length ((0 : Nat) : Int) from hin)
      have hss : k < p.ns.length → 0 ≤ distX p.ns.length (upU p.cs up) 0 (k : Int) → (seeT (List.replicate p.ns.length false) p.ns.length (upU p.cs up) 0 (k + 1)) = (seeT (List.replicate p.ns.length false) p.ns.length (upU p.cs up) 0 k).set k true := fun h1 h2 => seeT_succ (by simp; omega) h2
      have hs0 : ¬ 0 ≤ distX p.ns.length (upU p.cs up) 0 (k : Int) → (seeT (List.replicate p.ns.length false) p.ns.length (upU p.cs up) 0 (k + 1)) = (seeT (List.replicate p.ns.length false) p.ns.length (upU p.cs up) 0 k) := fun h2 => seeT_skip h2
      by_cases hq : parT p.ns.length (upU p.cs up) 0 k = []
      · by_cases hdk : 0 ≤ distX p.ns.length (upU p.cs up) 0 (k : Int)
        · have hp1 : parT p.ns.length (upU p.cs up) 0 (k + 1) = [(k : Int)] := by rw [hps, if_pos hdk]; rw [hq]; rfl
          simp only [hp1, hq, List.append_eq_nil_iff, List.cons_ne_nil, and_false, if_true, if_false]
          unfold lb16_0
          simp only [↓EVP0, EVQ0, EVQ1, EVQ2, EVQ3, EVQ4, EVA, EVK, EVF, ↓reduceIte, Nat.reduceEqDiff, Nat.reduceAdd, Nat.reduceSub, Nat.reduceMul, Nat.reduceLT, Nat.reduceLeDiff, reduceCtorEq, Int.reduceToNat, Int.reduceLT, Int.reduceLE, Int.reduceAdd, Int.reduceSub, Int.reduceMul, Int.reduceNeg, Int.reduceEq, Nat.reduceMod, forall_eq_or_imp, forall_eq, forall_const, cond_true, cond_false, decide_true, decide_false, true_imp_iff, implies_true, Int.cast_ofNat_Int, forall_eq']
          refine ⟨fun hg => ?_, fun hg => ?_⟩
          · have hk2 : k < p.ns.length := by have := of_decide_eq_true hg; omega
            rw [hdg k hk2, decide_eq_true hdk]
            have hsk := hss hk2 hdk
            rw [hsk]
            refine ⟨⟨by omega, by omega⟩, fun _ => ?_, fun h => by simp at h⟩
            exact ⟨by unfold appRoom; omega, ⟨by omega, by omega⟩, by omega, by unfold In64; omega, hk2, (), rfl⟩
          · have hkk : k = p.ns.length := by have := of_decide_eq_false hg; omega
            rw [hkk] at hq; exact absurd hq hpn
        · have hp1 : parT p.ns.length (upU p.cs up) 0 (k + 1) = parT p.ns.length (upU p.cs up) 0 k := by rw [hps, if_neg hdk]; simp
          simp only [hp1, hq, List.append_eq_nil_iff, List.cons_ne_nil, and_false, if_true, if_false]
          unfold lb16_0
          simp only [↓EVP0, EVQ0, EVQ1, EVQ2, EVQ3, EVQ4, EVA, EVK, EVF, ↓reduceIte, Nat.reduceEqDiff, Nat.reduceAdd, Nat.reduceSub, Nat.reduceMul, Nat.reduceLT, Nat.reduceLeDiff, reduceCtorEq, Int.reduceToNat, Int.reduceLT, Int.reduceLE, Int.reduceAdd, Int.reduceSub, Int.reduceMul, Int.reduceNeg, Int.reduceEq, Nat.reduceMod, forall_eq_or_imp, forall_eq, forall_const, cond_true, cond_false, decide_true, decide_false, true_imp_iff, implies_true, Int.cast_ofNat_Int, forall_eq']
          refine ⟨fun hg => ?_, fun hg => ?_⟩
          · have hk2 : k < p.ns.length := by have := of_decide_eq_true hg; omega
            rw [hdg k hk2, decide_eq_false hdk]
            rw [hs0 hdk]
            refine ⟨⟨by omega, by omega⟩, fun h => by simp at h, fun _ => ?_⟩
            exact ⟨by unfold In64; omega, hk2, (), rfl⟩
          · have hkk : k = p.ns.length := by have := of_decide_eq_false hg; omega
            rw [hkk] at hq; exact absurd hq hpn
      -- behind the first node of the part
      · by_cases hdk : 0 ≤ distX p.ns.length (upU p.cs up) 0 (k : Int)
        · have hp1 : parT p.ns.length (upU p.cs up) 0 (k + 1) = parT p.ns.length (upU p.cs up) 0 k ++ [(k : Int)] := by rw [hps, if_pos hdk]
          simp only [hp1, hq, List.append_eq_nil_iff, List.cons_ne_nil, and_false, if_true, if_false]
          unfold lb16_0
          simp only [↓EVP0, EVQ0, EVQ1, EVQ2, EVQ3, EVQ4, EVA, EVK, EVF, ↓reduceIte, Nat.reduceEqDiff, Nat.reduceAdd, Nat.reduceSub, Nat.reduceMul, Nat.reduceLT, Nat.reduceLeDiff, reduceCtorEq, Int.reduceToNat, Int.reduceLT, Int.reduceLE, Int.reduceAdd, Int.reduceSub, Int.reduceMul, Int.reduceNeg, Int.reduceEq, Nat.reduceMod, forall_eq_or_imp, forall_eq, forall_const, cond_true, cond_false, decide_true, decide_false, true_imp_iff, implies_true, Int.cast_ofNat_Int, forall_eq']
          refine ⟨fun hg => ?_, fun hg => ?_⟩
          · have hk2 : k < p.ns.length := by have := of_decide_eq_true hg; omega
            rw [hdg k hk2, decide_eq_true hdk]
            have hsk := hss hk2 hdk
            rw [hsk]
            refine ⟨⟨by omega, by omega⟩, fun _ => ?_, fun h => by simp at h⟩
            have hpl : 0 < (parT p.ns.length (upU p.cs up) 0 k).length := List.length_pos_iff.2 hq
            have hple : (parT p.ns.length (upU p.cs up) 0 k).length ≤ k := parT_len _ _ _ _
            have hl1 : (parT p.ns.length (upU p.cs up) 0 k ++ [(k : Int)]).length = (parT p.ns.length (upU p.cs up) 0 k).length + 1 := by simp
            rw [show (parT p.ns.length (upU p.cs up) 0 k).length - 1 + 1 = (parT p.ns.length (upU p.cs up) 0 k).length + 1 - 1 by omega, List.take_of_length_le (Nat.le_refl _), hl1]
            exact ⟨Nat.le_refl _, by unfold appRoom; omega, ⟨by omega, by omega⟩, by omega, by unfold In64; omega, hk2, (), rfl, rfl, by rw [getD_app0 hpl], rfl, rfl⟩
          · have hkk : k = p.ns.length := by have := of_decide_eq_false hg; omega
            rw [hkk] at *
            have hgs := goP_step (n := p.ns.length) (U := upU p.cs up) (f := 0) (by show ¬ (List.replicate p.ns.length false).getD 0 false = true; rw [h]; simp)
            have hgr := goP_rows p.ns.length (upU p.cs up) 0
            have e1 : goP p.ns.length (upU p.cs up) 1 = (seeT (List.replicate p.ns.length false) p.ns.length (upU p.cs up) 0 p.ns.length, [parT p.ns.length (upU p.cs up) 0 p.ns.length]) := hgs
            refine ⟨⟨⟨rfl, Nat.le_refl _, fun _ _ => rfl⟩, .inr trivial⟩, rowsF [parT p.ns.length (upU p.cs up) 0 p.ns.length], fun i hi => by (obtain rfl : i = 0 := (by omega)); rfl, by unfold appRoom; omega, by unfold In64; omega, hf2, (0, (parT p.ns.length (upU p.cs up) 0 p.ns.length).length - 1), ?_⟩
            rw [e1]
            exact ⟨rfl, rfl, rfl, ⟨rfl, congrArg (LO.row 1 1) (funext fun i => by rw [if_neg (Nat.not_lt_zero _)]; rfl)⟩, fun i hi => ⟨trivial, trivial⟩⟩
        · have hp1 : parT p.ns.length (upU p.cs up) 0 (k + 1) = parT p.ns.length (upU p.cs up) 0 k := by rw [hps, if_neg hdk]; simp
          simp only [hp1, hq, List.append_eq_nil_iff, List.cons_ne_nil, and_false, if_true, if_false]
          unfold lb16_0
          simp only [↓EVP0, EVQ0, EVQ1, EVQ2, EVQ3, EVQ4, EVA, EVK, EVF, ↓reduceIte, Nat.reduceEqDiff, Nat.reduceAdd, Nat.reduceSub, Nat.reduceMul, Nat.reduceLT, Nat.reduceLeDiff, reduceCtorEq, Int.reduceToNat, Int.reduceLT, Int.reduceLE, Int.reduceAdd, Int.reduceSub, Int.reduceMul, Int.reduceNeg, Int.reduceEq, Nat.reduceMod, forall_eq_or_imp, forall_eq, forall_const, cond_true, cond_false, decide_true, decide_false, true_imp_iff, implies_true, Int.cast_ofNat_Int, forall_eq']
          refine ⟨fun hg => ?_, fun hg => ?_⟩
          · have hk2 : k < p.ns.length := by have := of_decide_eq_true hg; omega
            rw [hdg k hk2, decide_eq_false hdk]
            rw [hs0 hdk]
            refine ⟨⟨by omega, by omega⟩, fun h => by simp at h, fun _ => ?_⟩
            exact ⟨by unfold In64; omega, hk2, (), rfl⟩
          · have hkk : k = p.ns.length := by have := of_decide_eq_false hg; omega
            rw [hkk] at *
            have hgs := goP_step (n := p.ns.length) (U := upU p.cs up) (f := 0) (by show ¬ (List.replicate p.ns.length false).getD 0 false = true; rw [h]; simp)
            have hgr := goP_rows p.ns.length (upU p.cs up) 0
            have e1 : goP p.ns.length (upU p.cs up) 1 = (seeT (List.replicate p.ns.length false) p.ns.length (upU p.cs up) 0 p.ns.length, [parT p.ns.length (upU p.cs up) 0 p.ns.length]) := hgs
            refine ⟨⟨⟨rfl, Nat.le_refl _, fun _ _ => rfl⟩, .inr trivial⟩, rowsF [parT p.ns.length (upU p.cs up) 0 p.ns.length], fun i hi => by (obtain rfl : i = 0 := (by omega)); rfl, by unfold appRoom; omega, by unfold In64; omega, hf2, (0, (parT p.ns.length (upU p.cs up) 0 p.ns.length).length - 1), ?_⟩
            rw [e1]
            exact ⟨rfl, rfl, rfl, ⟨rfl, congrArg (LO.row 1 1) (funext fun i => by rw [if_neg (Nat.not_lt_zero _)]; rfl)⟩, fun i hi => ⟨trivial, trivial⟩⟩
    · have hnn : p.ns.length = 0 := by have := of_decide_eq_false hg; omega
      rw [hnn]
      rfl
  | succ f =>
    simp only [Nat.succ_ne_zero, if_false]
    unfold lb16_1
    simp only [↓EVP0, EVQ0, EVQ1, EVQ2, EVQ3, EVQ4, EVA, EVK, EVF, ↓reduceIte, Nat.reduceEqDiff, Nat.reduceAdd, Nat.reduceSub, Nat.reduceMul, Nat.reduceLT, Nat.reduceLeDiff, reduceCtorEq, Int.reduceToNat, Int.reduceLT, Int.reduceLE, Int.reduceAdd, Int.reduceSub, Int.reduceMul, Int.reduceNeg, Int.reduceEq, Nat.reduceMod, forall_eq_or_imp, forall_eq, forall_const, cond_true, cond_false, decide_true, decide_false, true_imp_iff, implies_true, Int.cast_ofNat_Int, forall_eq']
    refine ⟨fun hg => ?_, fun hg => ?_⟩
    · have hf2 : f + 1 < p.ns.length := by have := of_decide_eq_true hg; omega
      have hin : inN p.ns.length ((f : Int) + 1) := ⟨by omega, by omega⟩
      have hgl := goP_len p.ns.length (upU p.cs up) (f + 1)
      rw [show ((f : Int) + 1).toNat = f + 1 by omega]
      refine ⟨⟨by omega, by omega⟩, by omega, fun h => ?_, fun h => ?_⟩
      · have eg : goP p.ns.length (upU p.cs up) (f + 1 + 1) = goP p.ns.length (upU p.cs up) (f + 1) := by show (if _ then _ else _) = _; rw [if_pos h]
        rw [eg]
        exact ⟨by unfold In64; omega, hf2, (v, dv), rfl, rfl, rfl, ⟨rfl, rfl⟩, fun i hi => ⟨trivial, trivial⟩⟩
      refine lwp_frzO [5, 6] 8 (.rsl 1 (parT p.ns.length (upU p.cs up) (f + 1) p.ns.length).length (intsF (parT p.ns.length (upU p.cs up) (f + 1) p.ns.length))) ?_
      simp only [↓EVP0, EVQ0, EVQ1, EVQ2, EVQ3, EVQ4, EVA, EVK, EVF, ↓reduceIte, Nat.reduceEqDiff, Nat.reduceAdd, Nat.reduceSub, Nat.reduceMul, Nat.reduceLT, Nat.reduceLeDiff, reduceCtorEq, Int.reduceToNat, Int.reduceLT, Int.reduceLE, Int.reduceAdd, Int.reduceSub, Int.reduceMul, Int.reduceNeg, Int.reduceEq, Nat.reduceMod, forall_eq_or_imp, forall_eq, forall_const, cond_true, cond_false, decide_true, decide_false, true_imp_iff, implies_true, Int.cast_ofNat_Int, forall_eq']
      have hd := ev_distances p up ((f : Int) + 1) hV.n16 hV.c32 hV.cab hin hup
      unfold plV boolsV intsV at hd
      refine callK_ro (hd) ?_ ?_
      · simp only [↓EVP0, EVQ0, EVQ1, EVQ2, EVQ3, EVQ4, EVA, EVK, EVF, ↓reduceIte, Nat.reduceEqDiff, Nat.reduceAdd, Nat.reduceSub, Nat.reduceMul, Nat.reduceLT, Nat.reduceLeDiff, reduceCtorEq, Int.reduceToNat, Int.reduceLT, Int.reduceLE, Int.reduceAdd, Int.reduceSub, Int.reduceMul, Int.reduceNeg, Int.reduceEq, Nat.reduceMod, forall_eq_or_imp, forall_eq, forall_const, cond_true, cond_false, decide_true, decide_false, true_imp_iff, implies_true, Int.cast_ofNat_Int, forall_eq']
      simp only [↓EVP0, EVQ0, EVQ1, EVQ2, EVQ3, EVQ4, EVA, EVK, EVF, ↓reduceIte, Nat.reduceEqDiff, Nat.reduceAdd, Nat.reduceSub, Nat.reduceMul, Nat.reduceLT, Nat.reduceLeDiff, reduceCtorEq, Int.reduceToNat, Int.reduceLT, Int.reduceLE, Int.reduceAdd, Int.reduceSub, Int.reduceMul, Int.reduceNeg, Int.reduceEq, Nat.reduceMod, forall_eq_or_imp, forall_eq, forall_const, cond_true, cond_false, decide_true, decide_false, true_imp_iff, implies_true, Int.cast_ofNat_Int, forall_eq']
      have hdl : (distL p.ns.length (upU p.cs up) ((f : Int) + 1)).length = p.ns.length := by simp [distL]
      have hdg : ∀ k : Nat, k < p.ns.length → (distL p.ns.length (upU p.cs up) ((f : Int) + 1)).getD k 0 = distX p.ns.length (upU p.cs up) ((f : Int) + 1) (k : Int) := by
        intro k hk
        rw [List.getD_eq_getElem?_getD, distL, List.getElem?_map, List.getElem?_range hk]; rfl
      rw [hdl]
      intro _
      refine lwp_for (α := Unit) p.ns.length (fun _ _ => True) (fun k _ => [(1, .rsl 1 up.length (boolsF up)), (2, .ptr 0 0 0 0 0), (5, .sl 4 v 1 0 (goP p.ns.length (upU p.cs up) (f + 1)).2.length), (6, .sl 1 0 1 0 p.ns.length), (8, if parT p.ns.length (upU p.cs up) (f + 1) k = [] then .nsl else .sl 6 ((parT p.ns.length (upU p.cs up) (f + 1) k).length - 1) 1 0 (parT p.ns.length (upU p.cs up) (f + 1) k).length), (21, .sc (.int .i64 p.ns.length)), (22, .sc (.int .i64 ((f : Int) + 1))), (32, .rsl 1 p.ns.length (intsF (distL p.ns.length (upU p.cs up) ((f : Int) + 1)))), (33, .sc (.int .i64 p.ns.length)), (34, .sc (.int .i64 k))])
        (fun k _ => if parT p.ns.length (upU p.cs up) (f + 1) k = [] then [(0, .box [.rsl 3 p.ns.length (ndsF p.ns), .rsl 6 p.cs.length (cbsF p.cs)]), (0, .bools (seeT ((goP p.ns.length (upU p.cs up) (f + 1)).1) p.ns.length (upU p.cs up) (f + 1) k)), (0, .dead), (dv, .dead), (v, .row 1 (goP p.ns.length (upU p.cs up) (f + 1)).2.length (rowsF (goP p.ns.length (upU p.cs up) (f + 1)).2))] else [(0, .box [.rsl 3 p.ns.length (ndsF p.ns), .rsl 6 p.cs.length (cbsF p.cs)]), (0, .bools (seeT ((goP p.ns.length (upU p.cs up) (f + 1)).1) p.ns.length (upU p.cs up) (f + 1) k)), (0, .dead), (dv, .dead), (v, .row 1 (goP p.ns.length (upU p.cs up) (f + 1)).2.length (rowsF (goP p.ns.length (upU p.cs up) (f + 1)).2)), (0, .ints [(parT p.ns.length (upU p.cs up) (f + 1) k).getD 0 0]), ((parT p.ns.length (upU p.cs up) (f + 1) k).length - 1, .ints (parT p.ns.length (upU p.cs up) (f + 1) k))]) () trivial ?_ (fun _ _ => Nat.zero_le _) ?_
      · rw [show parT p.ns.length (upU p.cs up) (f + 1) 0 = [] from rfl, seeT_zero]
        simp only [if_true]
        simp only [↓EVP0, EVQ0, EVQ1, EVQ2, EVQ3, EVQ4, EVA, EVK, EVF, ↓reduceIte, Nat.reduceEqDiff, Nat.reduceAdd, Nat.reduceSub, Nat.reduceMul, Nat.reduceLT, Nat.reduceLeDiff, reduceCtorEq, Int.reduceToNat, Int.reduceLT, Int.reduceLE, Int.reduceAdd, Int.reduceSub, Int.reduceMul, Int.reduceNeg, Int.reduceEq, Nat.reduceMod, forall_eq_or_imp, forall_eq, forall_const, cond_true, cond_false, decide_true, decide_false, true_imp_iff, implies_true, Int.cast_ofNat_Int, forall_eq']
        exact fun i hi => ⟨trivial, trivial⟩
      intro k _ hk _
      have hsl : (seeT ((goP p.ns.length (upU p.cs up) (f + 1)).1) p.ns.length (upU p.cs up) (f + 1) k).length = p.ns.length := by rw [seeT_len]; exact hgl
      have hps : parT p.ns.length (upU p.cs up) (f + 1) (k + 1) = parT p.ns.length (upU p.cs up) (f + 1) k ++ if 0 ≤ distX p.ns.length (upU p.cs up) ((f : Int) + 1) (k : Int) then [(k : Int)] else [] := parT_succ p.ns.length (upU p.cs up) (f + 1) k
      have hpn : parT p.ns.length (upU p.cs up) (f + 1) p.ns.length ≠ [] := parT_ne (upU_in hV.cab) (show inN p.ns.length (((f + 1) : Nat) : Int) from hin)
      have hss : k < p.ns.length → 0 ≤ distX p.ns.length (upU p.cs up) ((f : Int) + 1) (k : Int) → (seeT ((goP p.ns.length (upU p.cs up) (f + 1)).1) p.ns.length (upU p.cs up) (f + 1) (k + 1)) = (seeT ((goP p.ns.length (upU p.cs up) (f + 1)).1) p.ns.length (upU p.cs up) (f + 1) k).set k true := fun h1 h2 => seeT_succ (by omega) h2
      have hs0 : ¬ 0 ≤ distX p.ns.length (upU p.cs up) ((f : Int) + 1) (k : Int) → (seeT ((goP p.ns.length (upU p.cs up) (f + 1)).1) p.ns.length (upU p.cs up) (f + 1) (k + 1)) = (seeT ((goP p.ns.length (upU p.cs up) (f + 1)).1) p.ns.length (upU p.cs up) (f + 1) k) := fun h2 => seeT_skip h2
      by_cases hq : parT p.ns.length (upU p.cs up) (f + 1) k = []
      · by_cases hdk : 0 ≤ distX p.ns.length (upU p.cs up) ((f : Int) + 1) (k : Int)
        · have hp1 : parT p.ns.length (upU p.cs up) (f + 1) (k + 1) = [(k : Int)] := by rw [hps, if_pos hdk]; rw [hq]; rfl
          simp only [hp1, hq, List.append_eq_nil_iff, List.cons_ne_nil, and_false, if_true, if_false]
          unfold lb16_0
          simp only [↓EVP0, EVQ0, EVQ1, EVQ2, EVQ3, EVQ4, EVA, EVK, EVF, ↓reduceIte, Nat.reduceEqDiff, Nat.reduceAdd, Nat.reduceSub, Nat.reduceMul, Nat.reduceLT, Nat.reduceLeDiff, reduceCtorEq, Int.reduceToNat, Int.reduceLT, Int.reduceLE, Int.reduceAdd, Int.reduceSub, Int.reduceMul, Int.reduceNeg, Int.reduceEq, Nat.reduceMod, forall_eq_or_imp, forall_eq, forall_const, cond_true, cond_false, decide_true, decide_false, true_imp_iff, implies_true, Int.cast_ofNat_Int, forall_eq']
          refine ⟨fun hg => ?_, fun hg => ?_⟩
          · have hk2 : k < p.ns.length := by have := of_decide_eq_true hg; omega
            rw [hdg k hk2, decide_eq_true hdk]
            have hsk := hss hk2 hdk
            rw [hsk]
            refine ⟨⟨by omega, by omega⟩, fun _ => ?_, fun h => by simp at h⟩
            exact ⟨by unfold appRoom; omega, ⟨by omega, by omega⟩, by omega, by unfold In64; omega, hk2, (), rfl, fun i hi => ⟨trivial, trivial⟩⟩
          · have hkk : k = p.ns.length := by have := of_decide_eq_false hg; omega
            rw [hkk] at hq; exact absurd hq hpn
        · have hp1 : parT p.ns.length (upU p.cs up) (f + 1) (k + 1) = parT p.ns.length (upU p.cs up) (f + 1) k := by rw [hps, if_neg hdk]; simp
          simp only [hp1, hq, List.append_eq_nil_iff, List.cons_ne_nil, and_false, if_true, if_false]
          unfold lb16_0
          simp only [↓EVP0, EVQ0, EVQ1, EVQ2, EVQ3, EVQ4, EVA, EVK, EVF, ↓reduceIte, Nat.reduceEqDiff, Nat.reduceAdd, Nat.reduceSub, Nat.reduceMul, Nat.reduceLT, Nat.reduceLeDiff, reduceCtorEq, Int.reduceToNat, Int.reduceLT, Int.reduceLE, Int.reduceAdd, Int.reduceSub, Int.reduceMul, Int.reduceNeg, Int.reduceEq, Nat.reduceMod, forall_eq_or_imp, forall_eq, forall_const, cond_true, cond_false, decide_true, decide_false, true_imp_iff, implies_true, Int.cast_ofNat_Int, forall_eq']
          refine ⟨fun hg => ?_, fun hg => ?_⟩
          · have hk2 : k < p.ns.length := by have := of_decide_eq_true hg; omega
            rw [hdg k hk2, decide_eq_false hdk]
            rw [hs0 hdk]
            refine ⟨⟨by omega, by omega⟩, fun h => by simp at h, fun _ => ?_⟩
            exact ⟨by unfold In64; omega, hk2, (), rfl, fun i hi => ⟨trivial, trivial⟩⟩
          · have hkk : k = p.ns.length := by have := of_decide_eq_false hg; omega
            rw [hkk] at hq; exact absurd hq hpn
      -- behind the first node of the part
      · by_cases hdk : 0 ≤ distX p.ns.length (upU p.cs up) ((f : Int) + 1) (k : Int)
        · have hp1 : parT p.ns.length (upU p.cs up) (f + 1) (k + 1) = parT p.ns.length (upU p.cs up) (f + 1) k ++ [(k : Int)] := by rw [hps, if_pos hdk]
          simp only [hp1, hq, List.append_eq_nil_iff, List.cons_ne_nil, and_false, if_true, if_false]
          unfold lb16_0
          simp only [↓EVP0, EVQ0, EVQ1, EVQ2, EVQ3, EVQ4, EVA, EVK, EVF, ↓reduceIte, Nat.reduceEqDiff, Nat.reduceAdd, Nat.reduceSub, Nat.reduceMul, Nat.reduceLT, Nat.reduceLeDiff, reduceCtorEq, Int.reduceToNat, Int.reduceLT, Int.reduceLE, Int.reduceAdd, Int.reduceSub, Int.reduceMul, Int.reduceNeg, Int.reduceEq, Nat.reduceMod, forall_eq_or_imp, forall_eq, forall_const, cond_true, cond_false, decide_true, decide_false, true_imp_iff, implies_true, Int.cast_ofNat_Int, forall_eq']
          refine ⟨fun hg => ?_, fun hg => ?_⟩
          · have hk2 : k < p.ns.length := by have := of_decide_eq_true hg; omega
            rw [hdg k hk2, decide_eq_true hdk]
            have hsk := hss hk2 hdk
            rw [hsk]
            refine ⟨⟨by omega, by omega⟩, fun _ => ?_, fun h => by simp at h⟩
            have hpl : 0 < (parT p.ns.length (upU p.cs up) (f + 1) k).length := List.length_pos_iff.2 hq
            have hple : (parT p.ns.length (upU p.cs up) (f + 1) k).length ≤ k := parT_len _ _ _ _
            have hl1 : (parT p.ns.length (upU p.cs up) (f + 1) k ++ [(k : Int)]).length = (parT p.ns.length (upU p.cs up) (f + 1) k).length + 1 := by simp
            rw [show (parT p.ns.length (upU p.cs up) (f + 1) k).length - 1 + 1 = (parT p.ns.length (upU p.cs up) (f + 1) k).length + 1 - 1 by omega, List.take_of_length_le (Nat.le_refl _), hl1]
            exact ⟨Nat.le_refl _, by unfold appRoom; omega, ⟨by omega, by omega⟩, by omega, by unfold In64; omega, hk2, (), rfl, rfl, fun i hi => ⟨trivial, trivial⟩, by rw [getD_app0 hpl], rfl, rfl⟩
          · have hkk : k = p.ns.length := by have := of_decide_eq_false hg; omega
            rw [hkk] at *
            have hgs := goP_step (n := p.ns.length) (U := upU p.cs up) (f := (f + 1)) (by rw [h]; simp)
            have hgr := goP_rows p.ns.length (upU p.cs up) (f + 1)
            refine ⟨⟨⟨rfl, Nat.le_refl _, fun _ _ => rfl⟩, .inr trivial⟩, rowsF [parT p.ns.length (upU p.cs up) (f + 1) p.ns.length], fun i hi => by (obtain rfl : i = 0 := (by omega)); rfl, ⟨Nat.le_refl _, fun _ _ => rfl⟩, by unfold appRoom; omega, by unfold In64; omega, hf2, (v + 1, dv), ?_⟩
            rw [hgs, List.length_append, rowsF_app]
            exact ⟨rfl, rfl, rfl, ⟨rfl, rfl⟩, fun i hi => by rw [← rowsF_app]; exact ⟨trivial, trivial⟩⟩
        · have hp1 : parT p.ns.length (upU p.cs up) (f + 1) (k + 1) = parT p.ns.length (upU p.cs up) (f + 1) k := by rw [hps, if_neg hdk]; simp
          simp only [hp1, hq, List.append_eq_nil_iff, List.cons_ne_nil, and_false, if_true, if_false]
          unfold lb16_0
          simp only [↓EVP0, EVQ0, EVQ1, EVQ2, EVQ3, EVQ4, EVA, EVK, EVF, ↓reduceIte, Nat.reduceEqDiff, Nat.reduceAdd, Nat.reduceSub, Nat.reduceMul, Nat.reduceLT, Nat.reduceLeDiff, reduceCtorEq, Int.reduceToNat, Int.reduceLT, Int.reduceLE, Int.reduceAdd, Int.reduceSub, Int.reduceMul, Int.reduceNeg, Int.reduceEq, Nat.reduceMod, forall_eq_or_imp, forall_eq, forall_const, cond_true, cond_false, decide_true, decide_false, true_imp_iff, implies_true, Int.cast_ofNat_Int, forall_eq']
          refine ⟨fun hg => ?_, fun hg => ?_⟩
          · have hk2 : k < p.ns.length := by have := of_decide_eq_true hg; omega
            rw [hdg k hk2, decide_eq_false hdk]
            rw [hs0 hdk]
            refine ⟨⟨by omega, by omega⟩, fun h => by simp at h, fun _ => ?_⟩
            exact ⟨by unfold In64; omega, hk2, (), rfl, fun i hi => ⟨trivial, trivial⟩⟩
          · have hkk : k = p.ns.length := by have := of_decide_eq_false hg; omega
            rw [hkk] at *
            have hgs := goP_step (n := p.ns.length) (U := upU p.cs up) (f := (f + 1)) (by rw [h]; simp)
            have hgr := goP_rows p.ns.length (upU p.cs up) (f + 1)
            refine ⟨⟨⟨rfl, Nat.le_refl _, fun _ _ => rfl⟩, .inr trivial⟩, rowsF [parT p.ns.length (upU p.cs up) (f + 1) p.ns.length], fun i hi => by (obtain rfl : i = 0 := (by omega)); rfl, ⟨Nat.le_refl _, fun _ _ => rfl⟩, by unfold appRoom; omega, by unfold In64; omega, hf2, (v + 1, dv), ?_⟩
            rw [hgs, List.length_append, rowsF_app]
            exact ⟨rfl, rfl, rfl, ⟨rfl, rfl⟩, fun i hi => by rw [← rowsF_app]; exact ⟨trivial, trivial⟩⟩
    · have hnn : p.ns.length = f + 1 := by have := of_decide_eq_false hg; omega
      rw [hnn]
      exact ⟨rfl, ⟨Nat.le_refl _, fun i hi => rfl⟩, fun i hi => ⟨rfl, trivial, trivial⟩⟩
end Go.Proofs.YtchpncmmlhfemaaDoor
namespace Go.Proofs.YtchpncmmlhfemaaDoor
set_option linter.unusedSimpArgs false
set_option linter.unusedVariables false
open Go.RowKit
set_option maxRecDepth 20000

end Go.Proofs.YtchpncmmlhfemaaDoor
namespace Go.Proofs.YtchpncmmlhfemaaDoor
set_option linter.unusedSimpArgs false
set_option linter.unusedVariables false
open Go.RowKit
set_option maxRecDepth 20000

def conB (p : Pl) (up : List Bool) : Bool := decide ((partsE p up).length = 1)
theorem ev_connected (p : Pl) (hp : PlOk p) (up : List Bool) : Ev Tryd.prog 22 [plV p, boolsV up] (.sc (.bool (conB p up))) := by
  have h1 := ev_parts p hp up
  unfold plV boolsV rowsV at *
  refine ev_fn Tryd.func22 comp22 (show 2 ≤ Tryd.f22.ntmps by decide) ?_; unfold cf22 rf22; simp only [↓EVP0, EVQ0, EVQ1, EVQ2, EVQ3, EVQ4, EVA, EVK, EVF, ↓reduceIte, Nat.reduceEqDiff, Nat.reduceAdd, Nat.reduceSub, Nat.reduceMul, Nat.reduceLT, Nat.reduceLeDiff, reduceCtorEq, Int.reduceToNat, Int.reduceLT, Int.reduceLE, Int.reduceAdd, Int.reduceSub, Int.reduceMul, Int.reduceNeg, Int.reduceEq, Nat.reduceMod, forall_eq_or_imp, forall_eq, forall_const, cond_true, cond_false, decide_true, decide_false, true_imp_iff, implies_true, Int.cast_ofNat_Int, forall_eq']
  refine callK_ro (h1) ?_ ?_
  · simp only [↓EVP0, EVQ0, EVQ1, EVQ2, EVQ3, EVQ4, EVA, EVK, EVF, ↓reduceIte, Nat.reduceEqDiff, Nat.reduceAdd, Nat.reduceSub, Nat.reduceMul, Nat.reduceLT, Nat.reduceLeDiff, reduceCtorEq, Int.reduceToNat, Int.reduceLT, Int.reduceLE, Int.reduceAdd, Int.reduceSub, Int.reduceMul, Int.reduceNeg, Int.reduceEq, Nat.reduceMod, forall_eq_or_imp, forall_eq, forall_const, cond_true, cond_false, decide_true, decide_false, true_imp_iff, implies_true, Int.cast_ofNat_Int, forall_eq']
  simp only [↓EVP0, EVQ0, EVQ1, EVQ2, EVQ3, EVQ4, EVA, EVK, EVF, ↓reduceIte, Nat.reduceEqDiff, Nat.reduceAdd, Nat.reduceSub, Nat.reduceMul, Nat.reduceLT, Nat.reduceLeDiff, reduceCtorEq, Int.reduceToNat, Int.reduceLT, Int.reduceLE, Int.reduceAdd, Int.reduceSub, Int.reduceMul, Int.reduceNeg, Int.reduceEq, Nat.reduceMod, forall_eq_or_imp, forall_eq, forall_const, cond_true, cond_false, decide_true, decide_false, true_imp_iff, implies_true, Int.cast_ofNat_Int, forall_eq']
  intro _
  unfold conB
  exact decide_eq_decide.2 (by omega)
theorem plOk_ex : PlOk exPl := by
  refine ⟨fun n hn => ?_, fun c hc => ?_⟩
  · simp only [exPl, List.mem_cons, List.not_mem_nil, or_false] at hn
    rcases hn with rfl | rfl <;> unfold In64 <;> refine ⟨by decide, by decide, by decide⟩
  · simp only [exPl, List.mem_cons, List.not_mem_nil, or_false] at hc
    unfold In64
    rcases hc with rfl
    simp
def exTxt : ByteArray := ⟨#[115, 119, 105, 116, 99, 104, 32, 115, 49, 32, 50, 10, 101, 110, 100, 32, 101, 49, 10, 99, 97, 98, 108, 101, 32, 115, 49, 32, 49, 32, 101, 49, 32, 48, 32, 49, 32, 52, 10]⟩
theorem ex_same : decide (exTxt = ⟨#[115, 119, 105, 116, 99, 104, 32, 115, 49, 32, 50, 10, 101, 110, 100, 32, 101, 49, 10, 99, 97, 98, 108, 101, 32, 115, 49, 32, 49, 32, 101, 49, 32, 48, 32, 49, 32, 52, 10]⟩) = true := decide_eq_true rfl
theorem ex_fmt : fmtE exPl = (exTxt, 0) := by kernel_rfl
theorem ex_nbr : nbrE exPl 1 0 = (0, 1, 0, true) := by kernel_rfl
theorem ex_con1 : conB exPl [true] = true := by kernel_rfl
theorem ex_con2 : conB exPl [false] = false := by kernel_rfl
theorem ev_awake14 : Ev Tryd.prog 11 [] (.sc (.bool true)) := by
  have h1 := ev_exPl
  have h2 := ev_format exPl plOk_ex (fun x hx hn => by
    have h9 : x ≤ 8 := by
      rcases hn with ⟨q, hq, rfl⟩ | ⟨c, hc, h⟩
      · simp only [exPl, List.mem_cons, List.not_mem_nil, or_false] at hq
        rcases hq with rfl | rfl <;> simp
      · simp only [exPl, List.mem_cons, List.not_mem_nil, or_false] at hc
        subst hc
        simp at h; omega
    have := ev_itoa x.toNat (by omega)
    rw [show ((x.toNat : Nat) : Int) = x by omega] at this
    exact this)
  have h3 := ev_neighbor exPl plOk_ex 1 0
  have h4 := ev_connected exPl plOk_ex [true]
  have h5 := ev_connected exPl plOk_ex [false]
  rw [ex_fmt] at h2
  rw [ex_nbr] at h3
  rw [ex_con1] at h4
  rw [ex_con2] at h5
  unfold plV boolsV at *
  refine ev_fn Tryd.func11 comp11 (show 0 ≤ Tryd.f11.ntmps by decide) ?_; unfold cf11 rf11; simp only [↓EVP0, EVQ0, EVQ1, EVQ2, EVQ3, EVQ4, EVA, EVK, EVF, ↓reduceIte, Nat.reduceEqDiff, Nat.reduceAdd, Nat.reduceSub, Nat.reduceMul, Nat.reduceLT, Nat.reduceLeDiff, reduceCtorEq, Int.reduceToNat, Int.reduceLT, Int.reduceLE, Int.reduceAdd, Int.reduceSub, Int.reduceMul, Int.reduceNeg, Int.reduceEq, Nat.reduceMod, forall_eq_or_imp, forall_eq, forall_const, cond_true, cond_false, decide_true, decide_false, true_imp_iff, implies_true, Int.cast_ofNat_Int, forall_eq']
  refine callK_ro (h1) ?_ ?_
  · simp only [↓EVP0, EVQ0, EVQ1, EVQ2, EVQ3, EVQ4, EVA, EVK, EVF, ↓reduceIte, Nat.reduceEqDiff, Nat.reduceAdd, Nat.reduceSub, Nat.reduceMul, Nat.reduceLT, Nat.reduceLeDiff, reduceCtorEq, Int.reduceToNat, Int.reduceLT, Int.reduceLE, Int.reduceAdd, Int.reduceSub, Int.reduceMul, Int.reduceNeg, Int.reduceEq, Nat.reduceMod, forall_eq_or_imp, forall_eq, forall_const, cond_true, cond_false, decide_true, decide_false, true_imp_iff, implies_true, Int.cast_ofNat_Int, forall_eq']
  simp only [↓EVP0, EVQ0, EVQ1, EVQ2, EVQ3, EVQ4, EVA, EVK, EVF, ↓reduceIte, Nat.reduceEqDiff, Nat.reduceAdd, Nat.reduceSub, Nat.reduceMul, Nat.reduceLT, Nat.reduceLeDiff, reduceCtorEq, Int.reduceToNat, Int.reduceLT, Int.reduceLE, Int.reduceAdd, Int.reduceSub, Int.reduceMul, Int.reduceNeg, Int.reduceEq, Nat.reduceMod, forall_eq_or_imp, forall_eq, forall_const, cond_true, cond_false, decide_true, decide_false, true_imp_iff, implies_true, Int.cast_ofNat_Int, forall_eq']
  refine callK_ro (h2) ?_ ?_
  · simp only [↓EVP0, EVQ0, EVQ1, EVQ2, EVQ3, EVQ4, EVA, EVK, EVF, ↓reduceIte, Nat.reduceEqDiff, Nat.reduceAdd, Nat.reduceSub, Nat.reduceMul, Nat.reduceLT, Nat.reduceLeDiff, reduceCtorEq, Int.reduceToNat, Int.reduceLT, Int.reduceLE, Int.reduceAdd, Int.reduceSub, Int.reduceMul, Int.reduceNeg, Int.reduceEq, Nat.reduceMod, forall_eq_or_imp, forall_eq, forall_const, cond_true, cond_false, decide_true, decide_false, true_imp_iff, implies_true, Int.cast_ofNat_Int, forall_eq']
  simp only [↓EVP0, EVQ0, EVQ1, EVQ2, EVQ3, EVQ4, EVA, EVK, EVF, ↓reduceIte, Nat.reduceEqDiff, Nat.reduceAdd, Nat.reduceSub, Nat.reduceMul, Nat.reduceLT, Nat.reduceLeDiff, reduceCtorEq, Int.reduceToNat, Int.reduceLT, Int.reduceLE, Int.reduceAdd, Int.reduceSub, Int.reduceMul, Int.reduceNeg, Int.reduceEq, Nat.reduceMod, forall_eq_or_imp, forall_eq, forall_const, cond_true, cond_false, decide_true, decide_false, true_imp_iff, implies_true, Int.cast_ofNat_Int, forall_eq']
  refine callK_ro (h1) ?_ ?_
  · simp only [↓EVP0, EVQ0, EVQ1, EVQ2, EVQ3, EVQ4, EVA, EVK, EVF, ↓reduceIte, Nat.reduceEqDiff, Nat.reduceAdd, Nat.reduceSub, Nat.reduceMul, Nat.reduceLT, Nat.reduceLeDiff, reduceCtorEq, Int.reduceToNat, Int.reduceLT, Int.reduceLE, Int.reduceAdd, Int.reduceSub, Int.reduceMul, Int.reduceNeg, Int.reduceEq, Nat.reduceMod, forall_eq_or_imp, forall_eq, forall_const, cond_true, cond_false, decide_true, decide_false, true_imp_iff, implies_true, Int.cast_ofNat_Int, forall_eq']
  simp only [↓EVP0, EVQ0, EVQ1, EVQ2, EVQ3, EVQ4, EVA, EVK, EVF, ↓reduceIte, Nat.reduceEqDiff, Nat.reduceAdd, Nat.reduceSub, Nat.reduceMul, Nat.reduceLT, Nat.reduceLeDiff, reduceCtorEq, Int.reduceToNat, Int.reduceLT, Int.reduceLE, Int.reduceAdd, Int.reduceSub, Int.reduceMul, Int.reduceNeg, Int.reduceEq, Nat.reduceMod, forall_eq_or_imp, forall_eq, forall_const, cond_true, cond_false, decide_true, decide_false, true_imp_iff, implies_true, Int.cast_ofNat_Int, forall_eq']
  refine callK_ro (h3) ?_ ?_
  · simp only [↓EVP0, EVQ0, EVQ1, EVQ2, EVQ3, EVQ4, EVA, EVK, EVF, ↓reduceIte, Nat.reduceEqDiff, Nat.reduceAdd, Nat.reduceSub, Nat.reduceMul, Nat.reduceLT, Nat.reduceLeDiff, reduceCtorEq, Int.reduceToNat, Int.reduceLT, Int.reduceLE, Int.reduceAdd, Int.reduceSub, Int.reduceMul, Int.reduceNeg, Int.reduceEq, Nat.reduceMod, forall_eq_or_imp, forall_eq, forall_const, cond_true, cond_false, decide_true, decide_false, true_imp_iff, implies_true, Int.cast_ofNat_Int, forall_eq']
  simp only [↓EVP0, EVQ0, EVQ1, EVQ2, EVQ3, EVQ4, EVA, EVK, EVF, ↓reduceIte, Nat.reduceEqDiff, Nat.reduceAdd, Nat.reduceSub, Nat.reduceMul, Nat.reduceLT, Nat.reduceLeDiff, reduceCtorEq, Int.reduceToNat, Int.reduceLT, Int.reduceLE, Int.reduceAdd, Int.reduceSub, Int.reduceMul, Int.reduceNeg, Int.reduceEq, Nat.reduceMod, forall_eq_or_imp, forall_eq, forall_const, cond_true, cond_false, decide_true, decide_false, true_imp_iff, implies_true, Int.cast_ofNat_Int, forall_eq']
  simp only [ex_same, cond_true]
  (refine lops_ge_imp ?_; simp only [↓EVP0, EVQ0, EVQ1, EVQ2, EVQ3, EVQ4, EVA, EVK, EVF, ↓reduceIte, Nat.reduceEqDiff, Nat.reduceAdd, Nat.reduceSub, Nat.reduceMul, Nat.reduceLT, Nat.reduceLeDiff, reduceCtorEq, Int.reduceToNat, Int.reduceLT, Int.reduceLE, Int.reduceAdd, Int.reduceSub, Int.reduceMul, Int.reduceNeg, Int.reduceEq, Nat.reduceMod, forall_eq_or_imp, forall_eq, forall_const, cond_true, cond_false, decide_true, decide_false, true_imp_iff, implies_true, Int.cast_ofNat_Int, forall_eq'])
  refine gCallK_ro _ (fun _ => h1) (fun _ => ?_) ?_
  · simp only [↓EVP0, EVQ0, EVQ1, EVQ2, EVQ3, EVQ4, EVA, EVK, EVF, ↓reduceIte, Nat.reduceEqDiff, Nat.reduceAdd, Nat.reduceSub, Nat.reduceMul, Nat.reduceLT, Nat.reduceLeDiff, reduceCtorEq, Int.reduceToNat, Int.reduceLT, Int.reduceLE, Int.reduceAdd, Int.reduceSub, Int.reduceMul, Int.reduceNeg, Int.reduceEq, Nat.reduceMod, forall_eq_or_imp, forall_eq, forall_const, cond_true, cond_false, decide_true, decide_false, true_imp_iff, implies_true, Int.cast_ofNat_Int, forall_eq']
  simp only [↓EVP0, EVQ0, EVQ1, EVQ2, EVQ3, EVQ4, EVA, EVK, EVF, ↓reduceIte, Nat.reduceEqDiff, Nat.reduceAdd, Nat.reduceSub, Nat.reduceMul, Nat.reduceLT, Nat.reduceLeDiff, reduceCtorEq, Int.reduceToNat, Int.reduceLT, Int.reduceLE, Int.reduceAdd, Int.reduceSub, Int.reduceMul, Int.reduceNeg, Int.reduceEq, Nat.reduceMod, forall_eq_or_imp, forall_eq, forall_const, cond_true, cond_false, decide_true, decide_false, true_imp_iff, implies_true, Int.cast_ofNat_Int, forall_eq']
  (refine lops_ge_imp ?_; simp only [↓EVP0, EVQ0, EVQ1, EVQ2, EVQ3, EVQ4, EVA, EVK, EVF, ↓reduceIte, Nat.reduceEqDiff, Nat.reduceAdd, Nat.reduceSub, Nat.reduceMul, Nat.reduceLT, Nat.reduceLeDiff, reduceCtorEq, Int.reduceToNat, Int.reduceLT, Int.reduceLE, Int.reduceAdd, Int.reduceSub, Int.reduceMul, Int.reduceNeg, Int.reduceEq, Nat.reduceMod, forall_eq_or_imp, forall_eq, forall_const, cond_true, cond_false, decide_true, decide_false, true_imp_iff, implies_true, Int.cast_ofNat_Int, forall_eq'])
  (refine lops_ge_imp ?_; simp only [↓EVP0, EVQ0, EVQ1, EVQ2, EVQ3, EVQ4, EVA, EVK, EVF, ↓reduceIte, Nat.reduceEqDiff, Nat.reduceAdd, Nat.reduceSub, Nat.reduceMul, Nat.reduceLT, Nat.reduceLeDiff, reduceCtorEq, Int.reduceToNat, Int.reduceLT, Int.reduceLE, Int.reduceAdd, Int.reduceSub, Int.reduceMul, Int.reduceNeg, Int.reduceEq, Nat.reduceMod, forall_eq_or_imp, forall_eq, forall_const, cond_true, cond_false, decide_true, decide_false, true_imp_iff, implies_true, Int.cast_ofNat_Int, forall_eq'])
  refine gCallK_frz _ (fun _ => h4) (fun _ => ?_) trivial ?_
  · simp only [↓EVP0, EVQ0, EVQ1, EVQ2, EVQ3, EVQ4, EVA, EVK, EVF, ↓reduceIte, Nat.reduceEqDiff, Nat.reduceAdd, Nat.reduceSub, Nat.reduceMul, Nat.reduceLT, Nat.reduceLeDiff, reduceCtorEq, Int.reduceToNat, Int.reduceLT, Int.reduceLE, Int.reduceAdd, Int.reduceSub, Int.reduceMul, Int.reduceNeg, Int.reduceEq, Nat.reduceMod, forall_eq_or_imp, forall_eq, forall_const, cond_true, cond_false, decide_true, decide_false, true_imp_iff, implies_true, Int.cast_ofNat_Int, forall_eq']
  simp only [↓EVP0, EVQ0, EVQ1, EVQ2, EVQ3, EVQ4, EVA, EVK, EVF, ↓reduceIte, Nat.reduceEqDiff, Nat.reduceAdd, Nat.reduceSub, Nat.reduceMul, Nat.reduceLT, Nat.reduceLeDiff, reduceCtorEq, Int.reduceToNat, Int.reduceLT, Int.reduceLE, Int.reduceAdd, Int.reduceSub, Int.reduceMul, Int.reduceNeg, Int.reduceEq, Nat.reduceMod, forall_eq_or_imp, forall_eq, forall_const, cond_true, cond_false, decide_true, decide_false, true_imp_iff, implies_true, Int.cast_ofNat_Int, forall_eq']
  (refine lops_ge_imp ?_; simp only [↓EVP0, EVQ0, EVQ1, EVQ2, EVQ3, EVQ4, EVA, EVK, EVF, ↓reduceIte, Nat.reduceEqDiff, Nat.reduceAdd, Nat.reduceSub, Nat.reduceMul, Nat.reduceLT, Nat.reduceLeDiff, reduceCtorEq, Int.reduceToNat, Int.reduceLT, Int.reduceLE, Int.reduceAdd, Int.reduceSub, Int.reduceMul, Int.reduceNeg, Int.reduceEq, Nat.reduceMod, forall_eq_or_imp, forall_eq, forall_const, cond_true, cond_false, decide_true, decide_false, true_imp_iff, implies_true, Int.cast_ofNat_Int, forall_eq'])
  refine gCallK_ro _ (fun _ => h1) (fun _ => ?_) ?_
  · simp only [↓EVP0, EVQ0, EVQ1, EVQ2, EVQ3, EVQ4, EVA, EVK, EVF, ↓reduceIte, Nat.reduceEqDiff, Nat.reduceAdd, Nat.reduceSub, Nat.reduceMul, Nat.reduceLT, Nat.reduceLeDiff, reduceCtorEq, Int.reduceToNat, Int.reduceLT, Int.reduceLE, Int.reduceAdd, Int.reduceSub, Int.reduceMul, Int.reduceNeg, Int.reduceEq, Nat.reduceMod, forall_eq_or_imp, forall_eq, forall_const, cond_true, cond_false, decide_true, decide_false, true_imp_iff, implies_true, Int.cast_ofNat_Int, forall_eq']
  simp only [↓EVP0, EVQ0, EVQ1, EVQ2, EVQ3, EVQ4, EVA, EVK, EVF, ↓reduceIte, Nat.reduceEqDiff, Nat.reduceAdd, Nat.reduceSub, Nat.reduceMul, Nat.reduceLT, Nat.reduceLeDiff, reduceCtorEq, Int.reduceToNat, Int.reduceLT, Int.reduceLE, Int.reduceAdd, Int.reduceSub, Int.reduceMul, Int.reduceNeg, Int.reduceEq, Nat.reduceMod, forall_eq_or_imp, forall_eq, forall_const, cond_true, cond_false, decide_true, decide_false, true_imp_iff, implies_true, Int.cast_ofNat_Int, forall_eq']
  (refine lops_ge_imp ?_; simp only [↓EVP0, EVQ0, EVQ1, EVQ2, EVQ3, EVQ4, EVA, EVK, EVF, ↓reduceIte, Nat.reduceEqDiff, Nat.reduceAdd, Nat.reduceSub, Nat.reduceMul, Nat.reduceLT, Nat.reduceLeDiff, reduceCtorEq, Int.reduceToNat, Int.reduceLT, Int.reduceLE, Int.reduceAdd, Int.reduceSub, Int.reduceMul, Int.reduceNeg, Int.reduceEq, Nat.reduceMod, forall_eq_or_imp, forall_eq, forall_const, cond_true, cond_false, decide_true, decide_false, true_imp_iff, implies_true, Int.cast_ofNat_Int, forall_eq'])
  (refine lops_ge_imp ?_; simp only [↓EVP0, EVQ0, EVQ1, EVQ2, EVQ3, EVQ4, EVA, EVK, EVF, ↓reduceIte, Nat.reduceEqDiff, Nat.reduceAdd, Nat.reduceSub, Nat.reduceMul, Nat.reduceLT, Nat.reduceLeDiff, reduceCtorEq, Int.reduceToNat, Int.reduceLT, Int.reduceLE, Int.reduceAdd, Int.reduceSub, Int.reduceMul, Int.reduceNeg, Int.reduceEq, Nat.reduceMod, forall_eq_or_imp, forall_eq, forall_const, cond_true, cond_false, decide_true, decide_false, true_imp_iff, implies_true, Int.cast_ofNat_Int, forall_eq'])
  refine gCallK_frz _ (fun _ => h5) (fun _ => ?_) trivial ?_
  · simp only [↓EVP0, EVQ0, EVQ1, EVQ2, EVQ3, EVQ4, EVA, EVK, EVF, ↓reduceIte, Nat.reduceEqDiff, Nat.reduceAdd, Nat.reduceSub, Nat.reduceMul, Nat.reduceLT, Nat.reduceLeDiff, reduceCtorEq, Int.reduceToNat, Int.reduceLT, Int.reduceLE, Int.reduceAdd, Int.reduceSub, Int.reduceMul, Int.reduceNeg, Int.reduceEq, Nat.reduceMod, forall_eq_or_imp, forall_eq, forall_const, cond_true, cond_false, decide_true, decide_false, true_imp_iff, implies_true, Int.cast_ofNat_Int, forall_eq']
  simp only [↓EVP0, EVQ0, EVQ1, EVQ2, EVQ3, EVQ4, EVA, EVK, EVF, ↓reduceIte, Nat.reduceEqDiff, Nat.reduceAdd, Nat.reduceSub, Nat.reduceMul, Nat.reduceLT, Nat.reduceLeDiff, reduceCtorEq, Int.reduceToNat, Int.reduceLT, Int.reduceLE, Int.reduceAdd, Int.reduceSub, Int.reduceMul, Int.reduceNeg, Int.reduceEq, Nat.reduceMod, forall_eq_or_imp, forall_eq, forall_const, cond_true, cond_false, decide_true, decide_false, true_imp_iff, implies_true, Int.cast_ofNat_Int, forall_eq']
end Go.Proofs.YtchpncmmlhfemaaDoor
namespace Go.Proofs.YtchpncmmlhfemaaDoor
set_option linter.unusedSimpArgs false
set_option linter.unusedVariables false
open Go.RowKit
set_option maxRecDepth 100000

theorem fit_str {d : Nat} {t : TypeId} (ht : Tryd.prog.underlying t = some .string) {ls : List LV} (h : fitT Tryd.prog d t ls) : ∃ s : ByteArray, ls = [.sc (.string s)] ∧ s.size ≤ maxLen := by
  cases d with
  | zero => exact h.elim
  | succ d => unfold fitT at h; rw [ht] at h; exact h
theorem rsl_congr {z n : Nat} {f g : Nat → List LV} (h : ∀ i, i < n → f i = g i) {R : RO} {v : Value} (hr : Ro R (.rsl z n f) v) : Ro R (.rsl z n g) v := by
  cases hr with
  | rsl _ _ _ a cap b o w hc hm ha hf hcell hv hp =>
    exact .rsl _ _ _ a cap b o w hc hm ha (fun i hi => by rw [← h i hi]; exact hf i hi) hcell (fun i j c hi hj => hv i j c hi (by rw [h i hi]; exact hj)) hp
def Im (a b : LV) : Prop := ∀ R v, Ro R a v → Ro R b v
theorem Im.refl (a : LV) : Im a a := fun _ _ h => h
theorem Im.rsl {z n : Nat} {f g : Nat → List LV} (h : ∀ i, i < n → f i = g i) : Im (.rsl z n f) (.rsl z n g) := fun _ _ hr => rsl_congr h hr
theorem Im.agg {xs bs : List LV} (hl : xs.length = bs.length) (h : ∀ (i : Nat) (b : LV), bs[i]? = some b → ∃ a, xs[i]? = some a ∧ Im a b) : Im (.agg xs) (.agg bs) := by
  intro R v hr
  cases hr with
  | agg _ vs hs hc hp =>
    refine .agg _ _ (by omega) (fun i b hb => ?_) hp
    obtain ⟨a, ha, him⟩ := h i b hb
    exact him _ _ (hc i a ha)
def ImL : List LV → List LV → Prop
  | [], [] => True
  | a :: xs, b :: bs => Im a b ∧ ImL xs bs
  | _, _ => False
theorem ImL_get : ∀ {xs bs : List LV}, ImL xs bs → xs.length = bs.length ∧ ∀ (i : Nat) (b : LV), bs[i]? = some b → ∃ a, xs[i]? = some a ∧ Im a b
  | [], [], _ => ⟨rfl, fun i b h => by simp at h⟩
  | a :: xs, b :: bs, h => by
    obtain ⟨h1, h2⟩ := ImL_get h.2
    refine ⟨by simp [h1], fun i c hc => ?_⟩
    cases i with
    | zero => simp at hc; subst hc; exact ⟨a, rfl, h.1⟩
    | succ i => obtain ⟨x, hx, hx2⟩ := h2 i c (by simpa using hc); exact ⟨x, by simpa using hx, hx2⟩
  | [], _ :: _, h => h.elim
  | _ :: _, [], h => h.elim
theorem ev_im {P : Program} {f : FuncId} {xs bs : List LV} {r : LV} (h : ImL xs bs) (he : Ev P f bs r) : Ev P f xs r := by
  intro R w vs hR hgl hs ha
  obtain ⟨h1, h2⟩ := ImL_get h
  refine he R w vs hR hgl (by omega) (fun i b hb => ?_)
  obtain ⟨a, ha', him⟩ := h2 i b hb
  exact him _ _ (ha i a ha')

theorem arg_cell {t : TypeId} (hs : structT Tryd.prog t = false) {lv : LV} (h : fitA Tryd.prog t lv) : fitT Tryd.prog 20 t [lv] := by
  obtain ⟨ls, h1, ⟨h2, _⟩ | ⟨_, rfl⟩⟩ := h
  · rw [hs] at h2; simp at h2
  · exact h1
theorem all1 {t : TypeId} {ts : List TypeId} {l : List LV} (h : fitAll Tryd.prog (t :: ts) l) : ∃ a r, l = a :: r ∧ fitA Tryd.prog t a ∧ fitAll Tryd.prog ts r := by
  cases l with
  | nil => exact h.elim
  | cons a r => exact ⟨a, r, rfl, h.1, h.2⟩
theorem all0 {l : List LV} (h : fitAll Tryd.prog [] l) : l = [] := by
  cases l with
  | nil => rfl
  | cons a r => exact h.elim
theorem Tryd.own' : ownKnob Tryd.prog.godebug = none := by kernel_rfl
theorem Tryd.laidOut' : laidOutB Tryd.prog = true := by kernel_rfl
end Go.Proofs.YtchpncmmlhfemaaDoor
namespace Go.Proofs.YtchpncmmlhfemaaDoor
set_option linter.unusedSimpArgs false
set_option linter.unusedVariables false
open Go.RowKit
set_option maxRecDepth 20000

theorem below_drewN (w : World) (n : Nat) : Below w.heap.size w (w.drewN n) := ⟨rfl, rfl, rfl, Nat.le_refl _, fun _ _ => rfl⟩
theorem ro_lt {R : RO} {w : World} (hR : ∀ b o, R b = some o → w.heap[b]? = some o) {b : Nat} {o : Obj} (h : R b = some o) : b < w.heap.size := by
  have h1 := hR b o h
  rcases Nat.lt_or_ge b w.heap.size with h | h
  · exact h
  · rw [Array.getElem?_eq_none h] at h1; simp at h1
theorem ev_cutS (s sep : ByteArray) (hs : s.size < 4294967281) : Ev Tryd.prog 61 [.sc (.string s), .sc (.string sep)]
    (.tup [.sc (.string ⟨(Lib.cut s.data.toList sep.data.toList).1.toArray⟩), .sc (.string ⟨(Lib.cut s.data.toList sep.data.toList).2.1.toArray⟩), .sc (.bool (Lib.cut s.data.toList sep.data.toList).2.2)]) := by
  rintro R w ⟨vs⟩ hR hgl hs2 ha
  match vs, hs2 with
  | [v, u], _ =>
    have h0 : v = .string s := sc_inv (ha 0 _ rfl)
    have h1 : u = .string sep := sc_inv (ha 1 _ rfl)
    subst h0; subst h1
    first
      | (obtain ⟨m, hm⟩ := (hgl w hR).2.1; refine (Tryd.strings_Cut s sep m w hs hm).mono ?_)
      | (obtain ⟨m, hm⟩ := (hgl w hR).2; refine (Tryd.strings_Cut s sep m w hs hm).mono ?_)
    rintro e w' ⟨rfl, n, rfl⟩
    refine ⟨_, R, rfl, fun _ _ h => h, fun _ _ => rfl, fun b q hb => hR b q hb, below_drewN _ _, .tup _ _ rfl fun i c hi => ?_⟩
    match i, hi with
    | 0, hi => simp at hi; subst hi; exact .sc _ rfl
    | 1, hi => simp at hi; subst hi; exact .sc _ rfl
    | 2, hi => simp at hi; subst hi; exact .sc _ rfl
    | i + 3, hi => simp at hi
theorem ev_splitS (s sep : ByteArray) (hs : s.size < 4294967281) (h1 : 1 ≤ sep.size) : Ev Tryd.prog 62 [.sc (.string s), .sc (.string sep)]
    (.rsl 1 (Lib.countB s sep + 1) (txsF (Lib.splitB sep 0 (Lib.countB s sep) s))) := by
  rintro R w ⟨vs⟩ hR hgl hs2 ha
  match vs, hs2 with
  | [v, u], _ =>
    have h0 : v = .string s := sc_inv (ha 0 _ rfl)
    have h2 : u = .string sep := sc_inv (ha 1 _ rfl)
    subst h0; subst h2
    first
      | (obtain ⟨m, hm⟩ := (hgl w hR).2.1; refine (Tryd.strings_Split s sep m w hs hm h1).mono ?_)
      | (obtain ⟨m, hm⟩ := (hgl w hR).2; refine (Tryd.strings_Split s sep m w hs hm h1).mono ?_)
    rintro e w' ⟨rfl, rfl⟩
    have hlen := Lib.splitB_all sep h1 0 (Lib.countB s sep) s rfl
    have hcnt := Lib.countB_le sep h1 s.size s (Nat.le_refl _)
    generalize Lib.splitB sep 0 (Lib.countB s sep) s = xs at *
    generalize Lib.countB s sep = k at *
    have hB : Below w.heap.size w (w.alloc (.cells (xs.map Value.string).toArray 9)) := by
      refine ⟨rfl, rfl, rfl, (by show w.heap.size ≤ (w.heap.push _).size; rw [Array.size_push]; omega), fun b hb => ?_⟩
      show (w.heap.push _)[b]? = _
      rw [Array.getElem?_push_lt hb, Array.getElem?_eq_getElem hb]
    have hnew : (w.alloc (.cells (xs.map Value.string).toArray 9)).heap[w.heap.size]? = some (.cells (xs.map Value.string).toArray 9 (0, 0)) := by
      show (w.heap.push _)[w.heap.size]? = _
      rw [Array.getElem?_push_size]
    refine ⟨_, fun b => if b = w.heap.size then some (.cells (xs.map Value.string).toArray 9 (0, 0)) else R b, rfl, fun b o hb => ?_, fun b hb => if_neg (by omega), fun b o hb => ?_, hB, ?_⟩
    · show (if b = w.heap.size then _ else R b) = some o
      rw [if_neg (by have := ro_lt hR hb; omega)]; exact hb
    · by_cases e : b = w.heap.size
      · subst e
        have hb2 := (if_pos rfl).symm.trans hb
        rw [hnew, hb2]
      · have hb := (if_neg e).symm.trans hb
        rw [hB.block b (ro_lt hR hb)]; exact hR b o hb
    · refine .rsl _ _ _ _ _ w.heap.size 0 (fun i _ => .string (xs.getD i ⟨#[]⟩)) (Nat.le_refl _) (by unfold maxLen; omega) (fun _ => rfl) (fun _ _ => rfl) (fun i j hi hj => ?_) (fun i j c hi hc => ?_) (fun _ _ _ _ => rfl)
      · obtain rfl : j = 0 := by omega
        unfold roCell
        simp only [if_true]
        rw [Nat.zero_add, Nat.mul_one, Nat.add_zero]
        simp only [List.getElem?_toArray, List.getElem?_map]
        rw [List.getElem?_eq_getElem (by omega), List.getD_eq_getElem?_getD, List.getElem?_eq_getElem (by omega)]; rfl
      · match j, hc with
        | 0, hc => simp [txsF] at hc; subst hc; exact .sc _ rfl
        | j + 1, hc => simp [txsF] at hc
end Go.Proofs.YtchpncmmlhfemaaDoor
namespace Go.Proofs.YtchpncmmlhfemaaDoor
set_option linter.unusedSimpArgs false
set_option linter.unusedVariables false
open Go.RowKit
set_option maxRecDepth 20000

abbrev By := List UInt8
def strB (l : By) : ByteArray := ⟨l.toArray⟩
theorem strB_data (l : By) : (strB l).data.toList = l := by simp [strB]
theorem strB_size (l : By) : (strB l).size = l.length := by simp [strB, ByteArray.size]
theorem strB_inj {a b : By} (h : strB a = strB b) : a = b := by rw [← strB_data a, h, strB_data]
theorem strB_of (s : ByteArray) : strB s.data.toList = s := by cases s; simp [strB]
def cutE (c : UInt8) : By → By × By × Bool
  | [] => ([], [], false)
  | b :: r => if b = c then ([], r, true) else (b :: (cutE c r).1, (cutE c r).2.1, (cutE c r).2.2)
def splE (c : UInt8) : By → List By
  | [] => [[]]
  | b :: r => if b = c then [] :: splE c r else match splE c r with
    | [] => [[b]]
    | w :: ws => (b :: w) :: ws
theorem splE_ne (c : UInt8) : ∀ l : By, splE c l ≠ []
  | [] => by simp [splE]
  | b :: r => by
    unfold splE
    split
    · simp
    · split <;> simp
theorem idx_hit {c : UInt8} {r : By} : Lib.index (c :: r) [c] = 0 := by
  rw [Lib.index_one]; unfold Lib.indexByte; simp
theorem idx_miss {c b : UInt8} {r : By} (h : b ≠ c) : Lib.index (b :: r) [c] = if Lib.index r [c] = -1 then -1 else Lib.index r [c] + 1 := by
  rw [Lib.index_one, Lib.index_one]
  show (if (b == c) = true then (0 : Int) else if (Lib.indexByte r c == -1) = true then -1 else Lib.indexByte r c + 1) = _
  simp [h]
theorem idx_cut (c : UInt8) : ∀ l : By, ((cutE c l).2.2 = false ∧ Lib.index l [c] = -1 ∧ (cutE c l).1 = l ∧ (cutE c l).2.1 = []) ∨ ∃ i : Nat, (cutE c l).2.2 = true ∧ Lib.index l [c] = i ∧ i < l.length ∧ (cutE c l).1 = l.take i ∧ (cutE c l).2.1 = l.drop (i + 1)
  | [] => .inl ⟨rfl, rfl, rfl, rfl⟩
  | b :: r => by
    by_cases h : b = c
    · subst h
      refine .inr ⟨0, ?_, idx_hit, by simp, ?_, ?_⟩ <;> unfold cutE <;> rw [if_pos rfl] <;> rfl
    · have e : cutE c (b :: r) = (b :: (cutE c r).1, (cutE c r).2.1, (cutE c r).2.2) := by
        show (if b = c then _ else _) = _
        rw [if_neg h]
      rw [e, idx_miss h]
      rcases idx_cut c r with ⟨h1, h2, h3, h4⟩ | ⟨i, h1, h2, h3, h4, h5⟩
      · refine .inl ⟨h1, by rw [if_pos h2], by simp only; rw [h3], h4⟩
      · refine .inr ⟨i + 1, h1, by rw [if_neg (by omega), h2]; omega, by simp; omega, by simp only; rw [h4]; rfl, by simp only; rw [h5]; rfl⟩
theorem lib_cut (c : UInt8) (l : By) : Lib.cut l [c] = cutE c l := by
  unfold Lib.cut
  rcases idx_cut c l with ⟨h1, h2, h3, h4⟩ | ⟨i, h1, h2, h3, h4, h5⟩
  · rw [if_neg (by omega)]
    conv => rhs; rw [← Prod.eta (cutE c l), ← Prod.eta (cutE c l).2]
    rw [h1, h3, h4]
  · rw [if_pos (by omega), h2]
    conv => rhs; rw [← Prod.eta (cutE c l), ← Prod.eta (cutE c l).2]
    rw [h1, h4, h5]; rfl
theorem spl_cut (c : UInt8) : ∀ l : By, splE c l = if (cutE c l).2.2 = true then (cutE c l).1 :: splE c (cutE c l).2.1 else [l]
  | [] => rfl
  | b :: r => by
    by_cases h : b = c
    · subst h
      show (if b = b then _ else _) = _
      rw [if_pos rfl]
      have e : cutE b (b :: r) = ([], r, true) := by
        show (if b = b then _ else _) = _
        rw [if_pos rfl]
      rw [e]; rfl
    · have e : cutE c (b :: r) = (b :: (cutE c r).1, (cutE c r).2.1, (cutE c r).2.2) := by
        show (if b = c then _ else _) = _
        rw [if_neg h]
      have e2 : splE c (b :: r) = match splE c r with
        | [] => [[b]]
        | w :: ws => (b :: w) :: ws := by
        show (if b = c then _ else _) = _
        rw [if_neg h]
      rw [e, e2, spl_cut c r]
      by_cases q : (cutE c r).2.2 = true
      · rw [if_pos q, if_pos q]
      · rw [if_neg q, if_neg q]
theorem ev_cut (l : By) (c : UInt8) (hs : l.length < 4294967281) : Ev Tryd.prog 61 [.sc (.string (strB l)), .sc (.string (strB [c]))]
    (.tup [.sc (.string (strB (cutE c l).1)), .sc (.string (strB (cutE c l).2.1)), .sc (.bool (cutE c l).2.2)]) := by
  have h := ev_cutS (strB l) (strB [c]) (by rw [strB_size]; exact hs)
  rw [strB_data, strB_data, lib_cut] at h
  exact h
end Go.Proofs.YtchpncmmlhfemaaDoor
namespace Go.Proofs.YtchpncmmlhfemaaDoor
set_option linter.unusedSimpArgs false
set_option linter.unusedVariables false
open Go.RowKit
set_option maxRecDepth 20000

theorem lib_split (c : UInt8) : ∀ (k : Nat) (s : ByteArray), Lib.countB s (strB [c]) = k → Lib.splitB (strB [c]) 0 k s = (splE c s.data.toList).map strB := by
  intro k
  induction k with
  | zero =>
    intro s hk
    have h0 : (cutE c s.data.toList).2.2 = false := by
      rcases idx_cut c s.data.toList with ⟨h1, _⟩ | ⟨i, h1, h2, h3, _⟩
      · exact h1
      · have := Lib.countB_hit s (strB [c]) i (by rw [strB_size]; simp) (by unfold Lib.indexB; rw [strB_data]; exact h2)
        omega
    rw [spl_cut, h0]
    show [s] = _
    simp only [Bool.false_eq_true, if_false, List.map_cons, List.map_nil]
    rw [strB_of]
  | succ k ih =>
    intro s hk
    rcases idx_cut c s.data.toList with ⟨h1, h2, _⟩ | ⟨i, h1, h2, h3, h4, h5⟩
    · have := Lib.countB_miss s (strB [c]) (by unfold Lib.indexB; rw [strB_data]; exact h2)
      omega
    · have hi : Lib.indexB s (strB [c]) = i := by unfold Lib.indexB; rw [strB_data]; exact h2
      have hc := Lib.countB_hit s (strB [c]) i (by rw [strB_size]; simp) hi
      have hsz : (strB [c]).size = 1 := by rw [strB_size]; rfl
      have hx : (s.extract (i + (strB [c]).size) s.size).data.toList = s.data.toList.drop (i + 1) := by
        rw [Lib.extract_data, hsz]
        apply List.take_of_length_le
        rw [List.length_drop, Array.length_toList]
        exact Nat.le_refl _
      have hy : s.extract 0 (i + 0) = strB (s.data.toList.take i) := by
        rw [← strB_of (s.extract 0 (i + 0)), Lib.extract_data]; rfl
      rw [Lib.splitB_hit _ _ _ _ i hi, ih _ (by omega), hx, hy, spl_cut c s.data.toList, h1, if_pos rfl, List.map_cons, h4, h5]
def wsV (ws : List By) : LV := .rsl 1 ws.length (txsF (ws.map strB))
theorem ev_split (l : By) (c : UInt8) (hs : l.length < 4294967281) : Ev Tryd.prog 62 [.sc (.string (strB l)), .sc (.string (strB [c]))] (wsV (splE c l)) := by
  have h := ev_splitS (strB l) (strB [c]) (by rw [strB_size]; exact hs) (by rw [strB_size]; simp)
  have h2 := lib_split c _ (strB l) rfl
  have h3 := Lib.splitB_all (strB [c]) (by rw [strB_size]; simp) 0 _ (strB l) rfl
  rw [h2] at h h3
  rw [strB_data] at h h3
  rw [List.length_map] at h3
  rw [← h3] at h
  exact h
end Go.Proofs.YtchpncmmlhfemaaDoor
namespace Go.Proofs.YtchpncmmlhfemaaDoor
set_option linter.unusedSimpArgs false
set_option linter.unusedVariables false
open Go.RowKit
set_option maxRecDepth 20000

theorem dig_nat {m : Nat} (h : m < 10) : (UInt8.ofNat (48 + m)).toNat = 48 + m := by
  rw [UInt8.toNat_ofNat']; omega
theorem ddS {n : Nat} (h : n < 10) : Lib.decDigits n = [UInt8.ofNat (48 + n % 10)] := by
  rw [Lib.decDigits, dif_pos h, Nat.mod_eq_of_lt h]
theorem ddB {n : Nat} (h : ¬ n < 10) : Lib.decDigits n = Lib.decDigits (n / 10) ++ [UInt8.ofNat (48 + n % 10)] := by
  rw [Lib.decDigits, dif_neg h]
theorem itP {n : Int} (h : 0 ≤ n) : Lib.itoa n = Lib.decDigits n.toNat := by unfold Lib.itoa; rw [if_neg (by omega)]
theorem cutS {c : UInt8} {r : By} : ∀ {w : By}, (∀ x, x ∈ w → x ≠ c) → cutE c (w ++ c :: r) = (w, r, true)
  | [], _ => by
    show (if c = c then _ else _) = _
    rw [if_pos rfl]
  | b :: w, h => by
    show (if b = c then _ else _) = _
    rw [if_neg (h b (by simp))]
    have ih : cutE c (w.append (c :: r)) = (w, r, true) := cutS fun x hx => h x (by simp [hx])
    rw [ih]
theorem cutL (c : UInt8) : ∀ l : By, (cutE c l).1.length ≤ l.length ∧ (cutE c l).2.1.length ≤ l.length
  | [] => ⟨Nat.le_refl _, Nat.le_refl _⟩
  | b :: r => by
    obtain ⟨h1, h2⟩ := cutL c r
    unfold cutE
    split
    · exact ⟨Nat.zero_le _, by simp⟩
    · exact ⟨by simp; omega, by simp; omega⟩
end Go.Proofs.YtchpncmmlhfemaaDoor
namespace Go.Proofs.YtchpncmmlhfemaaDoor
set_option linter.unusedSimpArgs false
set_option linter.unusedVariables false
open Go.RowKit
set_option maxRecDepth 20000

def dgV : By → Nat → Option Nat
  | [], n => some n
  | c :: r, n => if c.toNat < 48 ∨ 57 < c.toNat then none else dgV r (10 * n + (c.toNat - 48))
def nmE (w : By) : Option Nat := if w.length < 1 ∨ 9 < w.length ∨ (1 < w.length ∧ w.getD 0 0 = 48) then none else dgV w 0
theorem dgV_app (c : UInt8) : ∀ (w : By) (n : Nat), dgV (w ++ [c]) n = match dgV w n with
    | none => none
    | some m => if c.toNat < 48 ∨ 57 < c.toNat then none else some (10 * m + (c.toNat - 48))
  | [], n => rfl
  | b :: r, n => by
    show (if b.toNat < 48 ∨ 57 < b.toNat then none else dgV (r ++ [c]) (10 * n + (b.toNat - 48))) = match (if b.toNat < 48 ∨ 57 < b.toNat then none else dgV r (10 * n + (b.toNat - 48))) with
      | none => none
      | some m => _
    by_cases h : b.toNat < 48 ∨ 57 < b.toNat
    · rw [if_pos h, if_pos h]
    · rw [if_neg h, if_neg h]; exact dgV_app c r _
theorem dgV_inv : ∀ (k : Nat) (w : By), w.length = k → ∀ u, 1 ≤ k → (1 < k → w.getD 0 0 ≠ 48) → dgV w 0 = some u → w = Lib.decDigits u := by
  intro k
  induction k with
  | zero => intro w _ u h; omega
  | succ k ih =>
    intro w hw u _ hh hd
    have hne : w ≠ [] := by intro e; subst e; simp at hw
    obtain ⟨v, c, rfl⟩ : ∃ v c, w = v ++ [c] := ⟨w.dropLast, w.getLast hne, (List.dropLast_concat_getLast hne).symm⟩
    rw [List.length_append, List.length_singleton] at hw
    rw [dgV_app] at hd
    have hcu : ∀ x : Nat, ¬ (c.toNat < 48 ∨ 57 < c.toNat) → x % 10 = c.toNat - 48 → UInt8.ofNat (48 + x % 10) = c := by
      intro x h1 h2
      apply UInt8.toNat_inj.1
      rw [dig_nat (Nat.mod_lt _ (by omega)), h2]; omega
    by_cases hk : k = 0
    · have hv : v = [] := List.length_eq_zero_iff.1 (by omega)
      subst hv
      change (if c.toNat < 48 ∨ 57 < c.toNat then none else some (10 * 0 + (c.toNat - 48))) = some u at hd
      split at hd
      · simp at hd
      · rename_i hc
        injection hd with hd
        rw [ddS (by omega), hcu u hc (by omega)]; rfl
    · have hv0 : v.getD 0 0 ≠ 48 := by
        have := hh (by omega)
        match v, hw with
        | [], hw => simp at hw; omega
        | b :: r, _ => exact this
      cases hm : dgV v 0 with
      | none => rw [hm] at hd; simp at hd
      | some m =>
        rw [hm] at hd
        have h1 := ih v (by omega) m (by omega) (fun _ => hv0) hm
        simp only at hd
        split at hd
        · simp at hd
        · rename_i hc
          injection hd with hd
          have hm1 : 1 ≤ m := by
            rcases Nat.eq_zero_or_pos m with h0 | h0
            · subst h0; rw [h1, ddS (by omega)] at hv0; exact absurd rfl hv0
            · exact h0
          rw [ddB (n := u) (by omega), show u / 10 = m by omega, ← h1, hcu u hc (by omega)]
theorem dgV_le : ∀ (w : By) (n u : Nat), dgV w n = some u → u < (n + 1) * 10 ^ w.length
  | [], n, u, h => by injection h with h; subst h; simp
  | c :: r, n, u, h => by
    unfold dgV at h
    split at h
    · simp at h
    · have := dgV_le r _ u h
      rw [List.length_cons, Nat.pow_succ]
      refine Nat.lt_of_lt_of_le this ?_
      rw [Nat.mul_comm (10 ^ r.length) 10, ← Nat.mul_assoc]
      exact Nat.mul_le_mul_right _ (by omega)
theorem nmE_inv {w : By} {u : Nat} (h : nmE w = some u) : w = Lib.decDigits u ∧ u < 1000000000 := by
  unfold nmE at h
  split at h
  · simp at h
  · rename_i hc
    refine ⟨dgV_inv w.length w rfl u (by omega) (fun h1 h2 => hc (.inr (.inr ⟨h1, h2⟩))) h, ?_⟩
    have h1 := dgV_le w 0 u h
    have h2 : 10 ^ w.length ≤ 10 ^ 9 := Nat.pow_le_pow_right (by omega) (by omega)
    have h3 : (10 : Nat) ^ 9 = 1000000000 := by decide
    omega
end Go.Proofs.YtchpncmmlhfemaaDoor
namespace Go.Proofs.YtchpncmmlhfemaaDoor
set_option linter.unusedSimpArgs false
set_option linter.unusedVariables false
open Go.RowKit
set_option maxRecDepth 20000

theorem sb_strG (s : By) (i : Nat) : sbyte (strB s) i = s.getD i 0 := by
  simp [sbyte, strB]
def jnW : List By → By
  | [] => []
  | [a] => a
  | a :: b :: r => a ++ 32 :: jnW (b :: r)
theorem jn_spl : ∀ l : By, jnW (splE 32 l) = l
  | [] => rfl
  | b :: r => by
    have ih := jn_spl r
    have hne := splE_ne 32 r
    by_cases h : b = 32
    · subst h
      have e : splE 32 (32 :: r) = [] :: splE 32 r := by
        show (if (32 : UInt8) = 32 then _ else _) = _
        rw [if_pos rfl]
      rw [e]
      cases h2 : splE 32 r with
      | nil => exact absurd h2 hne
      | cons w ws => rw [h2] at ih; show [] ++ 32 :: jnW (w :: ws) = _; rw [ih]; rfl
    · have e : splE 32 (b :: r) = match splE 32 r with
        | [] => [[b]]
        | w :: ws => (b :: w) :: ws := by
        show (if b = 32 then _ else _) = _
        rw [if_neg h] <;> (cases splE 32 r <;> rfl)
      rw [e]
      cases h2 : splE 32 r with
      | nil => exact absurd h2 hne
      | cons w ws =>
        rw [h2] at ih
        cases ws with
        | nil => show b :: w = _; rw [show w = r from ih]
        | cons v vs => show b :: (w ++ 32 :: jnW (v :: vs)) = _; rw [show w ++ 32 :: jnW (v :: vs) = r from ih]
def wSw : By := [115, 119, 105, 116, 99, 104]
def wEn : By := [101, 110, 100]
def wCa : By := [99, 97, 98, 108, 101]
def rdN : List By → Nd × Bool
  | [a, b, c] => if a = wSw then (⟨strB b, true, ((nmE c).getD 0 : Nat)⟩, (nmE c).isSome && nameOk (strB b)) else (default, false)
  | [a, b] => if a = wEn then (⟨strB b, false, 1⟩, nameOk (strB b)) else (default, false)
  | _ => (default, false)
def cbQ (b d : By) : Option Nat → Option Nat → Option Nat → Option Nat → Option (Cb × By × By)
  | some x, some y, some z, some u => some (⟨0, x, 0, y, z, u⟩, b, d)
  | _, _, _, _ => none
def rdC : List By → Option (Cb × By × By)
  | [a, b, c, d, e, f, g] => if a = wCa ∧ nameOk (strB b) = true ∧ nameOk (strB d) = true then cbQ b d (nmE c) (nmE e) (nmE f) (nmE g) else none
  | _ => none
theorem cut_lt {c : UInt8} {s : By} (h : ¬ s = []) : (cutE c s).2.1.length < s.length := by
  match s, h with
  | b :: r, _ =>
    have := (cutL c r).2
    unfold cutE
    split
    · simp
    · simp; omega
def rdL (s : By) (ns : List Nd) (cs : List Cb) (nm : List (By × By)) (i : Nat) : List Nd × List Cb × List (By × By) × Nat :=
  if h : s = [] then (ns, cs, nm, 0)
  else if (cutE 10 s).2.2 = true ∧ (rdN (splE 32 (cutE 10 s).1)).2 = true ∧ cs = [] then rdL (cutE 10 s).2.1 (ns ++ [(rdN (splE 32 (cutE 10 s).1)).1]) cs nm (i + 1)
  else if (cutE 10 s).2.2 = true then match rdC (splE 32 (cutE 10 s).1) with
    | some q => rdL (cutE 10 s).2.1 ns (cs ++ [q.1]) (nm ++ [q.2]) (i + 1)
    | none => ([], [], [], i)
  else ([], [], [], i)
termination_by s.length
decreasing_by all_goals exact cut_lt h
def fdN : List Nd → By → Nat → Option Nat
  | [], _, _ => none
  | n :: r, w, i => if n.name = strB w then some i else fdN r w (i + 1)
def rsC (ns : List Nd) : List Cb → List (By × By) → Nat → List Cb → List Cb × Nat
  | c :: cs, q :: nm, i, acc => match fdN ns q.1 0, fdN ns q.2 0 with
    | some x, some y => rsC ns cs nm (i + 1) (acc ++ [⟨x, c.ap, y, c.bp, c.dl, c.cp⟩])
    | _, _ => ([], i)
  | _, _, _, acc => (acc, 0)
def prG (s : By) : Pl × Int × Int :=
  if 65536 < s.length then (⟨[], []⟩, 0, 5)
  else if 0 < (rdL s [] [] [] 1).2.2.2 then (⟨[], []⟩, ((rdL s [] [] [] 1).2.2.2 : Nat), 3)
  else if 0 < (rsC (rdL s [] [] [] 1).1 (rdL s [] [] [] 1).2.1 (rdL s [] [] [] 1).2.2.1 ((rdL s [] [] [] 1).1.length + 1) []).2 then (⟨[], []⟩, ((rsC (rdL s [] [] [] 1).1 (rdL s [] [] [] 1).2.1 (rdL s [] [] [] 1).2.2.1 ((rdL s [] [] [] 1).1.length + 1) []).2 : Nat), 7)
  else if validE ⟨(rdL s [] [] [] 1).1, (rsC (rdL s [] [] [] 1).1 (rdL s [] [] [] 1).2.1 (rdL s [] [] [] 1).2.2.1 ((rdL s [] [] [] 1).1.length + 1) []).1⟩ = 0 then (⟨(rdL s [] [] [] 1).1, (rsC (rdL s [] [] [] 1).1 (rdL s [] [] [] 1).2.1 (rdL s [] [] [] 1).2.2.1 ((rdL s [] [] [] 1).1.length + 1) []).1⟩, 0, 0)
  else (⟨[], []⟩, 0, validE ⟨(rdL s [] [] [] 1).1, (rsC (rdL s [] [] [] 1).1 (rdL s [] [] [] 1).2.1 (rdL s [] [] [] 1).2.2.1 ((rdL s [] [] [] 1).1.length + 1) []).1⟩)
def lnN (n : Nd) : List By := if n.sw = true then [wSw, n.name.data.toList, Lib.decDigits n.ports.toNat] else [wEn, n.name.data.toList]
def lnC (ns : List Nd) (c : Cb) : List By := [wCa, (ns.getD c.a.toNat default).name.data.toList, Lib.decDigits c.ap.toNat, (ns.getD c.b.toNat default).name.data.toList, Lib.decDigits c.bp.toNat, Lib.decDigits c.dl.toNat, Lib.decDigits c.cp.toNat]
def txG (p : Pl) : By := (p.ns.map fun n => jnW (lnN n) ++ [10]).flatten ++ (p.cs.map fun c => jnW (lnC p.ns c) ++ [10]).flatten
end Go.Proofs.YtchpncmmlhfemaaDoor
namespace Go.Proofs.YtchpncmmlhfemaaDoor
set_option linter.unusedSimpArgs false
set_option linter.unusedVariables false
open Go.RowKit
set_option maxRecDepth 20000

structure VfG (p : Pl) : Prop where
  n16 : p.ns.length ≤ 16
  c32 : p.cs.length ≤ 32
  nod : ∀ n, n ∈ p.ns → nodeOk n = true
  prt : ∀ c, c ∈ p.cs → portsOk p c = true
  nam : (p.ns.map (·.name)).Nodup
  num : ∀ c, c ∈ p.cs → numOk c = true
theorem vfG {p : Pl} (h : validE p = 0) : VfG p := by
  unfold validE at h
  cases h1 : decide (16 < p.ns.length) || decide (32 < p.cs.length)
  · simp only [Bool.or_eq_false_iff, decide_eq_false_iff_not] at h1
    rw [show (decide (16 < p.ns.length) || decide (32 < p.cs.length)) = false by simp [h1], cond_false] at h
    cases h2 : p.ns.all nodeOk
    · rw [h2] at h; simp at h
    · rw [h2] at h
      cases h3 : p.cs.all (portsOk p)
      · rw [h3] at h; simp at h
      · rw [h3] at h
        cases h4 : repOk p
        · rw [h4] at h
          cases h5 : p.cs.all selfOk
          · rw [h5] at h; simp at h
          · rw [h5] at h
            cases h6 : p.cs.all numOk
            · rw [h6] at h; simp at h
            · unfold repOk at h4
              simp only [Bool.not_eq_false', Bool.and_eq_true, decide_eq_true_eq] at h4
              exact ⟨by omega, by omega, List.all_eq_true.1 h2, List.all_eq_true.1 h3, h4.1, List.all_eq_true.1 h6⟩
        · rw [h4] at h; simp at h
  · rw [h1] at h; simp at h
theorem nodeG {q : Nd} (h : nodeOk q = true) : nameOk q.name = true ∧ 1 ≤ q.ports ∧ q.ports ≤ 8 ∧ (q.sw = false → q.ports = 1) := by
  unfold nodeOk at h
  simp only [Bool.and_eq_true] at h
  refine ⟨h.1, ?_⟩
  have h2 := h.2
  cases hs : q.sw
  · rw [hs, cond_false, decide_eq_true_eq] at h2; exact ⟨by omega, by omega, fun _ => h2⟩
  · rw [hs, cond_true, Bool.and_eq_true, decide_eq_true_eq, decide_eq_true_eq] at h2; exact ⟨h2.1, h2.2, by simp⟩
theorem getG {α : Type} (d : α) {l : List α} {i : Nat} (h : i < l.length) : l.getD i d ∈ l := by
  rw [List.getD_eq_getElem?_getD, List.getElem?_eq_getElem h]; exact List.getElem_mem h
structure CbG (ns : List Nd) (c : Cb) : Prop where
  a : 0 ≤ c.a ∧ c.a.toNat < ns.length
  b : 0 ≤ c.b ∧ c.b.toNat < ns.length
  na : nameOk (ns.getD c.a.toNat default).name = true
  nb : nameOk (ns.getD c.b.toNat default).name = true
  ap : 0 ≤ c.ap ∧ c.ap ≤ 1000
  bp : 0 ≤ c.bp ∧ c.bp ≤ 1000
  dl : 0 ≤ c.dl ∧ c.dl ≤ 1000
  cp : 0 ≤ c.cp ∧ c.cp ≤ 1000
theorem cabG {p : Pl} (hn : VfG p) {c : Cb} (hc : c ∈ p.cs) : CbG p.ns c := by
  have h1 := hn.prt c hc
  have h2 := hn.num c hc
  unfold portsOk portOk at h1
  unfold numOk at h2
  simp only [Bool.and_eq_true, decide_eq_true_eq] at h1 h2
  obtain ⟨⟨a1, a2, a3, a4⟩, b1, b2, b3, b4⟩ := h1
  have ha := nodeG (hn.nod _ (getG default (show c.a.toNat < p.ns.length by omega)))
  have hb := nodeG (hn.nod _ (getG default (show c.b.toNat < p.ns.length by omega)))
  exact ⟨⟨a1, by omega⟩, ⟨b1, by omega⟩, ha.1, hb.1, ⟨a3, by omega⟩, ⟨b3, by omega⟩, ⟨by omega, by omega⟩, ⟨by omega, by omega⟩⟩
theorem rdL_nil (ns : List Nd) (cs : List Cb) (nm : List (By × By)) (i : Nat) : rdL [] ns cs nm i = (ns, cs, nm, 0) := by
  rw [rdL, dif_pos rfl]
end Go.Proofs.YtchpncmmlhfemaaDoor
namespace Go.Proofs.YtchpncmmlhfemaaDoor
set_option linter.unusedSimpArgs false
set_option linter.unusedVariables false
open Go.RowKit
set_option maxRecDepth 20000

theorem EVFT : (∀ (l : List ByteArray) (i : Nat), txsF l i = [.sc (.string (l.getD i ⟨#[]⟩))]) ∧ True := ⟨fun _ _ => rfl, trivial⟩
theorem u8wG {c : UInt8} (h1 : 48 ≤ c.toNat) : IntKind.u8.wrap ((c.toNat : Int) - 48) = (c.toNat : Int) - 48 := by
  have := c.toNat_lt
  unfold IntKind.wrap
  simp [IntKind.bits, IntKind.signed]
  omega
theorem map_getG (ws : List By) (i : Nat) : (ws.map strB).getD i ⟨#[]⟩ = strB (ws.getD i []) := by
  rw [List.getD_eq_getElem?_getD, List.getD_eq_getElem?_getD, List.getElem?_map]
  cases ws[i]? <;> rfl
theorem decG (a b : By) : decide (strB a = strB b) = decide (a = b) := decide_eq_decide.2 ⟨fun h => strB_inj h, fun h => by rw [h]⟩
theorem dgV_end {s : By} {i n : Nat} {R : Option Nat} (hr : dgV (s.drop i) n = R) (h : ¬ (i : Int) < s.length) : R = some n := by
  rw [List.drop_eq_nil_of_le (by omega)] at hr
  exact hr.symm
theorem dgV_step {s : By} {i n : Nat} {R : Option Nat} (hr : dgV (s.drop i) n = R) (h : i < s.length) : (if (s.getD i 0).toNat < 48 ∨ 57 < (s.getD i 0).toNat then none else dgV (s.drop (i + 1)) (10 * n + ((s.getD i 0).toNat - 48))) = R := by
  rw [List.drop_eq_getElem_cons h] at hr
  rw [List.getD_eq_getElem?_getD, List.getElem?_eq_getElem h]
  exact hr
theorem ev_readNumG (s : By) : Ev Tryd.prog 72 [.sc (.string (strB s))] (.tup [.sc (.int .i64 ((nmE s).getD 0 : Nat)), .sc (.bool (nmE s).isSome)]) := by
  have hE : nmE s = if s.length < 1 ∨ 9 < s.length ∨ (1 < s.length ∧ s.getD 0 0 = 48) then none else dgV s 0 := rfl
  generalize nmE s = R at *
  refine ev_fn Tryd.func72 comp72 (show 1 ≤ Tryd.f72.ntmps by decide) ?_; unfold cf72 rf72; simp only [↓EVP0, EVQ0, EVQ1, EVQ2, EVQ3, EVQ4, EVA, EVK, EVF,EVFT, ↓reduceIte, Nat.reduceEqDiff, Nat.reduceAdd, Nat.reduceSub, Nat.reduceMul, Nat.reduceLT, Nat.reduceLeDiff, reduceCtorEq, Int.reduceToNat, Int.reduceLT, Int.reduceLE, Int.reduceAdd, Int.reduceSub, Int.reduceMul, Int.reduceNeg, Int.reduceEq, Nat.reduceMod, forall_eq_or_imp, forall_eq, forall_const, cond_true, cond_false, decide_true, decide_false, true_imp_iff, implies_true, Int.cast_ofNat_Int, forall_eq']
  rw [strB_size, sb_strG]
  refine ⟨fun h => ?_, ?_⟩
  · by_cases e : 1 < s.length
    · omega
    · rw [decide_eq_false (show ¬ (1 : Int) < s.length by omega)] at h; simp at h
  have hc : (bif bif decide ((s.length : Int) < 1) then true else decide (9 < (s.length : Int)) then true
      else bif decide (1 < (s.length : Int)) then decide (((s.getD 0 0).toNat : Int) = 48) else false) = decide (s.length < 1 ∨ 9 < s.length ∨ (1 < s.length ∧ s.getD 0 0 = 48)) := by
    have e4 : (((s.getD 0 0).toNat : Int) = 48) ↔ s.getD 0 0 = 48 := ⟨fun h => UInt8.toNat_inj.1 (by rw [show (48 : UInt8).toNat = 48 from rfl]; omega), fun h => by rw [h]; rfl⟩
    have e1 : (decide ((s.length : Int) < 1)) = decide (s.length < 1) := decide_eq_decide.2 (by omega)
    have e2 : (decide (9 < (s.length : Int))) = decide (9 < s.length) := decide_eq_decide.2 (by omega)
    have e3 : (decide (1 < (s.length : Int))) = decide (1 < s.length) := decide_eq_decide.2 (by omega)
    have e5 : decide (((s.getD 0 0).toNat : Int) = 48) = decide (s.getD 0 0 = 48) := decide_eq_decide.2 e4
    rw [e1, e2, e3, e5]
    by_cases k1 : s.length < 1 <;> by_cases k2 : 9 < s.length <;> by_cases k3 : 1 < s.length <;> by_cases k4 : s.getD 0 0 = 48 <;> simp only [k1, k2, k3, k4, decide_true, decide_false, cond_true, cond_false, true_or, or_true, false_or, or_false, and_true, true_and, and_false, false_and, and_self, or_self]
  rw [hc]
  refine ⟨fun h => ?_, fun h => ?_⟩
  · rw [if_pos (of_decide_eq_true h)] at hE
    rw [hE]; exact ⟨rfl, rfl⟩
  have hc2 := of_decide_eq_false h
  rw [if_neg hc2] at hE
  have hs : s.length ≤ 9 := by omega
  refine lwp_for (α := Nat) s.length (fun i n => n < 10 ^ i ∧ dgV (s.drop i) n = R) (fun i n => [(0, .sc (.string (strB s))), (4, .sc (.int .i64 (n : Nat))), (25, .sc (.int .i64 s.length)), (26, .sc (.int .i64 i))]) (fun _ _ => []) 0 ⟨by simp, hE.symm⟩ ?_ (fun _ _ => Nat.le_refl _) ?_
  · simp only [↓EVP0, EVQ0, EVQ1, EVQ2, EVQ3, EVQ4, EVA, EVK, EVF,EVFT, ↓reduceIte, Nat.reduceEqDiff, Nat.reduceAdd, Nat.reduceSub, Nat.reduceMul, Nat.reduceLT, Nat.reduceLeDiff, reduceCtorEq, Int.reduceToNat, Int.reduceLT, Int.reduceLE, Int.reduceAdd, Int.reduceSub, Int.reduceMul, Int.reduceNeg, Int.reduceEq, Nat.reduceMod, forall_eq_or_imp, forall_eq, forall_const, cond_true, cond_false, decide_true, decide_false, true_imp_iff, implies_true, Int.cast_ofNat_Int, forall_eq']
    try exact ⟨rfl, strB_size s⟩
  intro i n hi ⟨hn, hr⟩
  have hpw : 10 ^ i ≤ 10 ^ 9 := Nat.pow_le_pow_right (by omega) (by omega)
  rw [show (10 : Nat) ^ 9 = 1000000000 by decide] at hpw
  unfold lb72_0
  simp only [↓EVP0, EVQ0, EVQ1, EVQ2, EVQ3, EVQ4, EVA, EVK, EVF,EVFT, ↓reduceIte, Nat.reduceEqDiff, Nat.reduceAdd, Nat.reduceSub, Nat.reduceMul, Nat.reduceLT, Nat.reduceLeDiff, reduceCtorEq, Int.reduceToNat, Int.reduceLT, Int.reduceLE, Int.reduceAdd, Int.reduceSub, Int.reduceMul, Int.reduceNeg, Int.reduceEq, Nat.reduceMod, forall_eq_or_imp, forall_eq, forall_const, cond_true, cond_false, decide_true, decide_false, true_imp_iff, implies_true, Int.cast_ofNat_Int, forall_eq']
  rw [strB_size, sb_strG]
  refine ⟨fun hg => ?_, fun hg => ?_⟩
  · have hi2 : i < s.length := by have := of_decide_eq_true hg; omega
    have hst := dgV_step hr hi2
    refine ⟨⟨by omega, hi2⟩, fun _ => ⟨by omega, hi2⟩, fun hg3 => ?_, fun hg3 => ?_⟩
    · have : (s.getD i 0).toNat < 48 ∨ 57 < (s.getD i 0).toNat := by
        revert hg3
        by_cases e1 : ((s.getD i 0).toNat : Int) < 48 <;> by_cases e2 : 57 < ((s.getD i 0).toNat : Int) <;> simp [e1, e2] <;> omega
      rw [if_pos this] at hst
      rw [← hst]; exact ⟨rfl, rfl⟩
    · have h3 : ¬ (s.getD i 0).toNat < 48 ∧ ¬ 57 < (s.getD i 0).toNat := by
        revert hg3
        by_cases e1 : ((s.getD i 0).toNat : Int) < 48 <;> by_cases e2 : 57 < ((s.getD i 0).toNat : Int) <;> simp [e1, e2] <;> omega
      rw [if_neg (by omega)] at hst
      rw [u8wG (by omega)]
      exact ⟨by unfold In64; omega, ⟨by omega, hi2⟩, by unfold In64; omega, by unfold In64; omega, by unfold In64; omega, hi2, 10 * n + ((s.getD i 0).toNat - 48), ⟨by rw [Nat.pow_succ]; omega, hst⟩, by omega⟩
  · have := dgV_end hr (of_decide_eq_false hg)
    rw [this]; exact ⟨rfl, rfl⟩
theorem ev_readNodeG (ws : List By) : Ev Tryd.prog 63 [wsV ws] (.tup [.agg (ndL (rdN ws).1), .sc (.bool (rdN ws).2)]) := by
  have h1 := fun s => ev_readNumG s
  have h2 := fun s => ev_validName s
  unfold wsV ndL
  refine ev_fn Tryd.func63 comp63 (show 1 ≤ Tryd.f63.ntmps by decide) ?_; unfold cf63 rf63; simp only [↓EVP0, EVQ0, EVQ1, EVQ2, EVQ3, EVQ4, EVA, EVK, EVF,EVFT, ↓reduceIte, Nat.reduceEqDiff, Nat.reduceAdd, Nat.reduceSub, Nat.reduceMul, Nat.reduceLT, Nat.reduceLeDiff, reduceCtorEq, Int.reduceToNat, Int.reduceLT, Int.reduceLE, Int.reduceAdd, Int.reduceSub, Int.reduceMul, Int.reduceNeg, Int.reduceEq, Nat.reduceMod, forall_eq_or_imp, forall_eq, forall_const, cond_true, cond_false, decide_true, decide_false, true_imp_iff, implies_true, Int.cast_ofNat_Int, forall_eq']
  intro _
  match ws with
  | [] => exact ⟨fun h => by simp at h, fun h => by simp at h, fun _ _ => ⟨fun h => by simp at h, fun h => by simp at h, fun _ => ⟨⟨rfl, rfl, rfl⟩, rfl⟩⟩⟩
  | [_] => exact ⟨fun h => by simp at h, fun h => by simp at h, fun _ _ => ⟨fun h => by simp at h, fun h => by simp at h, fun _ => ⟨⟨rfl, rfl, rfl⟩, rfl⟩⟩⟩
  | a :: b :: c :: d :: r =>
    have e1 : ¬ (((a :: b :: c :: d :: r).length : Nat) : Int) = 3 := by simp only [List.length_cons]; omega
    have e2 : ¬ (((a :: b :: c :: d :: r).length : Nat) : Int) = 2 := by simp only [List.length_cons]; omega
    rw [decide_eq_false e1, decide_eq_false e2]
    exact ⟨fun h => by simp at h, fun h => by simp at h, fun _ _ => ⟨fun h => by simp at h, fun h => by simp at h, fun _ => ⟨⟨rfl, rfl, rfl⟩, rfl⟩⟩⟩
  | [a, b] =>
    rw [show ({ data := #[101, 110, 100] } : ByteArray) = strB wEn from rfl]
    simp only [List.map_cons, List.map_nil, List.getD_cons_zero, List.getD_cons_succ, List.length_cons, List.length_nil, decG]
    refine ⟨fun h => by simp at h, fun h => by simp at h, fun _ _ => ⟨fun _ => by omega, fun h => ?_, fun h => ?_⟩⟩
    · have e : a = wEn := by simpa using h
      have h2' := h2 (strB b)
      refine ⟨by omega, by omega, ?_⟩
      first | refine qCallK_ro (h2') ?_ ?_ | refine eCallK_ro (h2') ?_ ?_
      · simp only [↓EVP0, EVQ0, EVQ1, EVQ2, EVQ3, EVQ4, EVA, EVK, EVF,EVFT, ↓reduceIte, Nat.reduceEqDiff, Nat.reduceAdd, Nat.reduceSub, Nat.reduceMul, Nat.reduceLT, Nat.reduceLeDiff, reduceCtorEq, Int.reduceToNat, Int.reduceLT, Int.reduceLE, Int.reduceAdd, Int.reduceSub, Int.reduceMul, Int.reduceNeg, Int.reduceEq, Nat.reduceMod, forall_eq_or_imp, forall_eq, forall_const, cond_true, cond_false, decide_true, decide_false, true_imp_iff, implies_true, Int.cast_ofNat_Int, forall_eq']
      simp only [↓EVP0, EVQ0, EVQ1, EVQ2, EVQ3, EVQ4, EVA, EVK, EVF,EVFT, ↓reduceIte, Nat.reduceEqDiff, Nat.reduceAdd, Nat.reduceSub, Nat.reduceMul, Nat.reduceLT, Nat.reduceLeDiff, reduceCtorEq, Int.reduceToNat, Int.reduceLT, Int.reduceLE, Int.reduceAdd, Int.reduceSub, Int.reduceMul, Int.reduceNeg, Int.reduceEq, Nat.reduceMod, forall_eq_or_imp, forall_eq, forall_const, cond_true, cond_false, decide_true, decide_false, true_imp_iff, implies_true, Int.cast_ofNat_Int, forall_eq']
      subst e
      exact ⟨⟨rfl, rfl, rfl⟩, rfl⟩
    · have e : ¬ a = wEn := by simpa using h
      have : rdN [a, b] = (default, false) := if_neg e
      rw [this]
      exact ⟨⟨rfl, rfl, rfl⟩, rfl⟩
  | [a, b, c] =>
    rw [show ({ data := #[115, 119, 105, 116, 99, 104] } : ByteArray) = strB wSw from rfl]
    simp only [List.map_cons, List.map_nil, List.getD_cons_zero, List.getD_cons_succ, List.length_cons, List.length_nil, decG]
    refine ⟨fun _ => by omega, fun h => ?_, fun h _ => ⟨fun h => by simp at h, fun h => by simp at h, fun _ => ?_⟩⟩
    · have e : a = wSw := by simpa using h
      subst e
      have h1' := h1 c
      have h2' := h2 (strB b)
      refine ⟨by omega, ?_⟩
      refine callK_ro (h1') ?_ ?_
      · simp only [↓EVP0, EVQ0, EVQ1, EVQ2, EVQ3, EVQ4, EVA, EVK, EVF,EVFT, ↓reduceIte, Nat.reduceEqDiff, Nat.reduceAdd, Nat.reduceSub, Nat.reduceMul, Nat.reduceLT, Nat.reduceLeDiff, reduceCtorEq, Int.reduceToNat, Int.reduceLT, Int.reduceLE, Int.reduceAdd, Int.reduceSub, Int.reduceMul, Int.reduceNeg, Int.reduceEq, Nat.reduceMod, forall_eq_or_imp, forall_eq, forall_const, cond_true, cond_false, decide_true, decide_false, true_imp_iff, implies_true, Int.cast_ofNat_Int, forall_eq']
      simp only [↓EVP0, EVQ0, EVQ1, EVQ2, EVQ3, EVQ4, EVA, EVK, EVF,EVFT, ↓reduceIte, Nat.reduceEqDiff, Nat.reduceAdd, Nat.reduceSub, Nat.reduceMul, Nat.reduceLT, Nat.reduceLeDiff, reduceCtorEq, Int.reduceToNat, Int.reduceLT, Int.reduceLE, Int.reduceAdd, Int.reduceSub, Int.reduceMul, Int.reduceNeg, Int.reduceEq, Nat.reduceMod, forall_eq_or_imp, forall_eq, forall_const, cond_true, cond_false, decide_true, decide_false, true_imp_iff, implies_true, Int.cast_ofNat_Int, forall_eq']
      (first | refine lopsQ_gcall ?_ | refine lopsQ_gecl ?_); (simp only [↓EVP0, EVQ0, EVQ1, EVQ2, EVQ3, EVQ4, EVA, EVK, EVF,EVFT, ↓reduceIte, Nat.reduceEqDiff, Nat.reduceAdd, Nat.reduceSub, Nat.reduceMul, Nat.reduceLT, Nat.reduceLeDiff, reduceCtorEq, Int.reduceToNat, Int.reduceLT, Int.reduceLE, Int.reduceAdd, Int.reduceSub, Int.reduceMul, Int.reduceNeg, Int.reduceEq, Nat.reduceMod, forall_eq_or_imp, forall_eq, forall_const, cond_true, cond_false, decide_true, decide_false, true_imp_iff, implies_true, Int.cast_ofNat_Int, forall_eq'])
      first | refine gCallK_ro _ (fun _ => h2') (fun _ => ?_) ?_ | refine geCallK_ro _ (fun _ => h2') (fun _ => ?_) ?_
      · simp only [↓EVP0, EVQ0, EVQ1, EVQ2, EVQ3, EVQ4, EVA, EVK, EVF,EVFT, ↓reduceIte, Nat.reduceEqDiff, Nat.reduceAdd, Nat.reduceSub, Nat.reduceMul, Nat.reduceLT, Nat.reduceLeDiff, reduceCtorEq, Int.reduceToNat, Int.reduceLT, Int.reduceLE, Int.reduceAdd, Int.reduceSub, Int.reduceMul, Int.reduceNeg, Int.reduceEq, Nat.reduceMod, forall_eq_or_imp, forall_eq, forall_const, cond_true, cond_false, decide_true, decide_false, true_imp_iff, implies_true, Int.cast_ofNat_Int, forall_eq']
      simp only [↓EVP0, EVQ0, EVQ1, EVQ2, EVQ3, EVQ4, EVA, EVK, EVF,EVFT, ↓reduceIte, Nat.reduceEqDiff, Nat.reduceAdd, Nat.reduceSub, Nat.reduceMul, Nat.reduceLT, Nat.reduceLeDiff, reduceCtorEq, Int.reduceToNat, Int.reduceLT, Int.reduceLE, Int.reduceAdd, Int.reduceSub, Int.reduceMul, Int.reduceNeg, Int.reduceEq, Nat.reduceMod, forall_eq_or_imp, forall_eq, forall_const, cond_true, cond_false, decide_true, decide_false, true_imp_iff, implies_true, Int.cast_ofNat_Int, forall_eq']
      have e : rdN [wSw, b, c] = (⟨strB b, true, ((nmE c).getD 0 : Nat)⟩, (nmE c).isSome && nameOk (strB b)) := by
        show (if wSw = wSw then ((⟨strB b, true, ((nmE c).getD 0 : Nat)⟩, (nmE c).isSome && nameOk (strB b)) : Nd × Bool) else (default, false)) = _
        rw [if_pos rfl]
      rw [e]
      refine ⟨⟨rfl, rfl, rfl⟩, ?_⟩
      cases (nmE c).isSome <;> rfl
    · have e : ¬ a = wSw := by simpa using h
      have : rdN [a, b, c] = (default, false) := if_neg e
      rw [this]
      exact ⟨⟨rfl, rfl, rfl⟩, rfl⟩
end Go.Proofs.YtchpncmmlhfemaaDoor
namespace Go.Proofs.YtchpncmmlhfemaaDoor
set_option linter.unusedSimpArgs false
set_option linter.unusedVariables false
open Go.RowKit
set_option maxRecDepth 20000

def cbE (ws : List By) : Cb × By × By := (rdC ws).getD (⟨0, 0, 0, 0, 0, 0⟩, [], [])
theorem rdC_no {ws : List By} (h : ¬ (ws.length = 7 ∧ ws.getD 0 [] = wCa ∧ nameOk (strB (ws.getD 1 [])) = true ∧ nameOk (strB (ws.getD 3 [])) = true)) : rdC ws = none := by
  match ws, h with
  | [], _ => rfl
  | [_], _ => rfl
  | [_, _], _ => rfl
  | [_, _, _], _ => rfl
  | [_, _, _, _], _ => rfl
  | [_, _, _, _, _], _ => rfl
  | [_, _, _, _, _, _], _ => rfl
  | [a, b, c, d, e, f, g], h => exact if_neg (fun hh => h ⟨rfl, hh.1, hh.2.1, hh.2.2⟩)
  | _ :: _ :: _ :: _ :: _ :: _ :: _ :: _ :: _, _ => rfl
theorem rdC7_some {b c d e f g : By} {x y z u : Nat} (hb : nameOk (strB b) = true) (hd : nameOk (strB d) = true) (h1 : nmE c = some x) (h2 : nmE e = some y) (h3 : nmE f = some z) (h4 : nmE g = some u) : rdC [wCa, b, c, d, e, f, g] = some (⟨0, x, 0, y, z, u⟩, b, d) := by
  show (if wCa = wCa ∧ nameOk (strB b) = true ∧ nameOk (strB d) = true then cbQ b d (nmE c) (nmE e) (nmE f) (nmE g) else none) = _
  rw [if_pos ⟨rfl, hb, hd⟩, h1, h2, h3, h4]
  rfl
theorem rdC7_none {b c d e f g : By} (h : nmE c = none ∨ nmE e = none ∨ nmE f = none ∨ nmE g = none) : rdC [wCa, b, c, d, e, f, g] = none := by
  show (if wCa = wCa ∧ nameOk (strB b) = true ∧ nameOk (strB d) = true then cbQ b d (nmE c) (nmE e) (nmE f) (nmE g) else none) = _
  split
  · rcases h with h | h | h | h
    · rw [h]; rfl
    · rw [h]; cases nmE c <;> rfl
    · rw [h]; cases nmE c <;> cases nmE e <;> rfl
    · rw [h]; cases nmE c <;> cases nmE e <;> cases nmE f <;> rfl
  · rfl
theorem ev_readCabG (ws : List By) : Ev Tryd.prog 64 [wsV ws] (.tup [.agg (cbL (cbE ws).1), .agg [.sc (.string (strB (cbE ws).2.1)), .sc (.string (strB (cbE ws).2.2))], .sc (.bool (rdC ws).isSome)]) := by
  have h1 := fun s => ev_readNumG s
  have h2 := fun s => ev_validName s
  unfold wsV cbL
  refine ev_fn Tryd.func64 comp64 (show 1 ≤ Tryd.f64.ntmps by decide) ?_; unfold cf64 rf64; simp only [↓EVP0, EVQ0, EVQ1, EVQ2, EVQ3, EVQ4, EVA, EVK, EVF,EVFT, ↓reduceIte, Nat.reduceEqDiff, Nat.reduceAdd, Nat.reduceSub, Nat.reduceMul, Nat.reduceLT, Nat.reduceLeDiff, reduceCtorEq, Int.reduceToNat, Int.reduceLT, Int.reduceLE, Int.reduceAdd, Int.reduceSub, Int.reduceMul, Int.reduceNeg, Int.reduceEq, Nat.reduceMod, forall_eq_or_imp, forall_eq, forall_const, cond_true, cond_false, decide_true, decide_false, true_imp_iff, implies_true, Int.cast_ofNat_Int, forall_eq']
  intro _
  have h2a := h2 ((ws.map strB).getD 1 ⟨#[]⟩)
  have h2b := h2 ((ws.map strB).getD 3 ⟨#[]⟩)
  refine ⟨fun h => by have := of_decide_eq_true h; omega, fun h => ?_, ?_⟩
  · by_cases e : (ws.length : Int) = 7
    · omega
    · rw [decide_eq_false e] at h; simp at h
  (refine lops_ge_imp ?_; simp only [↓EVP0, EVQ0, EVQ1, EVQ2, EVQ3, EVQ4, EVA, EVK, EVF,EVFT, ↓reduceIte, Nat.reduceEqDiff, Nat.reduceAdd, Nat.reduceSub, Nat.reduceMul, Nat.reduceLT, Nat.reduceLeDiff, reduceCtorEq, Int.reduceToNat, Int.reduceLT, Int.reduceLE, Int.reduceAdd, Int.reduceSub, Int.reduceMul, Int.reduceNeg, Int.reduceEq, Nat.reduceMod, forall_eq_or_imp, forall_eq, forall_const, cond_true, cond_false, decide_true, decide_false, true_imp_iff, implies_true, Int.cast_ofNat_Int, forall_eq'])
  refine gCallK_ro _ (fun _ => h2a) (fun _ => ?_) ?_
  · simp only [↓EVP0, EVQ0, EVQ1, EVQ2, EVQ3, EVQ4, EVA, EVK, EVF,EVFT, ↓reduceIte, Nat.reduceEqDiff, Nat.reduceAdd, Nat.reduceSub, Nat.reduceMul, Nat.reduceLT, Nat.reduceLeDiff, reduceCtorEq, Int.reduceToNat, Int.reduceLT, Int.reduceLE, Int.reduceAdd, Int.reduceSub, Int.reduceMul, Int.reduceNeg, Int.reduceEq, Nat.reduceMod, forall_eq_or_imp, forall_eq, forall_const, cond_true, cond_false, decide_true, decide_false, true_imp_iff, implies_true, Int.cast_ofNat_Int, forall_eq']
  simp only [↓EVP0, EVQ0, EVQ1, EVQ2, EVQ3, EVQ4, EVA, EVK, EVF,EVFT, ↓reduceIte, Nat.reduceEqDiff, Nat.reduceAdd, Nat.reduceSub, Nat.reduceMul, Nat.reduceLT, Nat.reduceLeDiff, reduceCtorEq, Int.reduceToNat, Int.reduceLT, Int.reduceLE, Int.reduceAdd, Int.reduceSub, Int.reduceMul, Int.reduceNeg, Int.reduceEq, Nat.reduceMod, forall_eq_or_imp, forall_eq, forall_const, cond_true, cond_false, decide_true, decide_false, true_imp_iff, implies_true, Int.cast_ofNat_Int, forall_eq']
  refine ⟨fun h => ?_, ?_⟩
  · by_cases e : (ws.length : Int) = 7
    · omega
    · rw [decide_eq_false e] at h; simp at h
  (refine lops_ge_imp ?_; simp only [↓EVP0, EVQ0, EVQ1, EVQ2, EVQ3, EVQ4, EVA, EVK, EVF,EVFT, ↓reduceIte, Nat.reduceEqDiff, Nat.reduceAdd, Nat.reduceSub, Nat.reduceMul, Nat.reduceLT, Nat.reduceLeDiff, reduceCtorEq, Int.reduceToNat, Int.reduceLT, Int.reduceLE, Int.reduceAdd, Int.reduceSub, Int.reduceMul, Int.reduceNeg, Int.reduceEq, Nat.reduceMod, forall_eq_or_imp, forall_eq, forall_const, cond_true, cond_false, decide_true, decide_false, true_imp_iff, implies_true, Int.cast_ofNat_Int, forall_eq'])
  refine gCallK_ro _ (fun _ => h2b) (fun _ => ?_) ?_
  · simp only [↓EVP0, EVQ0, EVQ1, EVQ2, EVQ3, EVQ4, EVA, EVK, EVF,EVFT, ↓reduceIte, Nat.reduceEqDiff, Nat.reduceAdd, Nat.reduceSub, Nat.reduceMul, Nat.reduceLT, Nat.reduceLeDiff, reduceCtorEq, Int.reduceToNat, Int.reduceLT, Int.reduceLE, Int.reduceAdd, Int.reduceSub, Int.reduceMul, Int.reduceNeg, Int.reduceEq, Nat.reduceMod, forall_eq_or_imp, forall_eq, forall_const, cond_true, cond_false, decide_true, decide_false, true_imp_iff, implies_true, Int.cast_ofNat_Int, forall_eq']
  simp only [↓EVP0, EVQ0, EVQ1, EVQ2, EVQ3, EVQ4, EVA, EVK, EVF,EVFT, ↓reduceIte, Nat.reduceEqDiff, Nat.reduceAdd, Nat.reduceSub, Nat.reduceMul, Nat.reduceLT, Nat.reduceLeDiff, reduceCtorEq, Int.reduceToNat, Int.reduceLT, Int.reduceLE, Int.reduceAdd, Int.reduceSub, Int.reduceMul, Int.reduceNeg, Int.reduceEq, Nat.reduceMod, forall_eq_or_imp, forall_eq, forall_const, cond_true, cond_false, decide_true, decide_false, true_imp_iff, implies_true, Int.cast_ofNat_Int, forall_eq']
  rw [show ({ data := #[99, 97, 98, 108, 101] } : ByteArray) = strB wCa from rfl]
  simp only [map_getG, decG]
  have hB : (bif bif bif !decide ((ws.length : Int) = 7) then true else !decide (ws.getD 0 [] = wCa) then true else !nameOk (strB (ws.getD 1 [])) then true else !nameOk (strB (ws.getD 3 []))) = !decide (ws.length = 7 ∧ ws.getD 0 [] = wCa ∧ nameOk (strB (ws.getD 1 [])) = true ∧ nameOk (strB (ws.getD 3 [])) = true) := by
    have e1 : decide ((ws.length : Int) = 7) = decide (ws.length = 7) := decide_eq_decide.2 (by omega)
    rw [e1]
    rw [Bool.decide_and, Bool.decide_and, Bool.decide_and, Bool.decide_eq_true, Bool.decide_eq_true]
    generalize decide (ws.length = 7) = x
    generalize decide (ws.getD 0 [] = wCa) = y
    generalize nameOk (strB (ws.getD 1 [])) = z
    generalize nameOk (strB (ws.getD 3 [])) = u
    cases x <;> cases y <;> cases z <;> cases u <;> rfl
  have hno : rdC ws = none → cbE ws = (⟨0, 0, 0, 0, 0, 0⟩, [], []) := fun h => by unfold cbE; rw [h]; rfl
  rw [hB]
  refine ⟨fun h => ?_, fun h => ?_⟩
  · have hn : rdC ws = none := rdC_no (fun hh => by rw [decide_eq_true hh] at h; simp at h)
    rw [hno hn, hn]
    exact ⟨⟨rfl, rfl, rfl, rfl, rfl, rfl⟩, ⟨rfl, rfl⟩, rfl⟩
  have hC : ws.length = 7 ∧ ws.getD 0 [] = wCa ∧ nameOk (strB (ws.getD 1 [])) = true ∧ nameOk (strB (ws.getD 3 [])) = true := by
    by_cases hh : ws.length = 7 ∧ ws.getD 0 [] = wCa ∧ nameOk (strB (ws.getD 1 [])) = true ∧ nameOk (strB (ws.getD 3 [])) = true
    · exact hh
    · rw [decide_eq_false hh] at h; simp at h
  clear hB h h2a h2b
  obtain ⟨h7, hw, hb, hd⟩ := hC
  match ws, h7 with
  | [a, b, c, d, e, f, g], _ =>
    obtain rfl : a = wCa := hw
    refine lwp_for (α := Nat × Nat × Nat × Nat) 4 (fun j x => (0 < j → nmE c = some x.1) ∧ (1 < j → nmE e = some x.2.1) ∧ (2 < j → nmE f = some x.2.2.1) ∧ (3 < j → nmE g = some x.2.2.2))
      (fun j _ => [(0, .rsl 1 7 (txsF ([wCa, b, c, d, e, f, g].map strB))), (2, .ptr 0 0 0 0 0), (3, .ptr 1 0 0 0 0), (5, .ptr 2 0 0 0 0), (36, .agg [.sc (.int .i64 2), .sc (.int .i64 4), .sc (.int .i64 5), .sc (.int .i64 6)]), (37, .sc (.int .i64 j))])
      (fun _ x => [(0, .box [.sc (.int .i64 0), .sc (.int .i64 0), .sc (.int .i64 0), .sc (.int .i64 0), .sc (.int .i64 0), .sc (.int .i64 0)]), (0, .box [.sc (.string ⟨#[]⟩), .sc (.string ⟨#[]⟩)]), (0, .box [.sc (.int .i64 (x.1 : Nat)), .sc (.int .i64 (x.2.1 : Nat)), .sc (.int .i64 (x.2.2.1 : Nat)), .sc (.int .i64 (x.2.2.2 : Nat))])])
      (0, 0, 0, 0) ⟨fun h => by omega, fun h => by omega, fun h => by omega, fun h => by omega⟩ ?_ (fun _ _ => Nat.zero_le _) ?_
    · simp only [↓EVP0, EVQ0, EVQ1, EVQ2, EVQ3, EVQ4, EVA, EVK, EVF,EVFT, ↓reduceIte, Nat.reduceEqDiff, Nat.reduceAdd, Nat.reduceSub, Nat.reduceMul, Nat.reduceLT, Nat.reduceLeDiff, reduceCtorEq, Int.reduceToNat, Int.reduceLT, Int.reduceLE, Int.reduceAdd, Int.reduceSub, Int.reduceMul, Int.reduceNeg, Int.reduceEq, Nat.reduceMod, forall_eq_or_imp, forall_eq, forall_const, cond_true, cond_false, decide_true, decide_false, true_imp_iff, implies_true, Int.cast_ofNat_Int, forall_eq']
    rintro j ⟨x, y, z, u⟩ hj ⟨i1, i2, i3, i4⟩
    simp only at i1 i2 i3 i4 ⊢
    unfold lb64_0
    have hj5 : j = 0 ∨ j = 1 ∨ j = 2 ∨ j = 3 ∨ j = 4 := by omega
    have k2 := h1 c
    have k4 := h1 e
    have k5 := h1 f
    have k6 := h1 g
    rcases hj5 with rfl | rfl | rfl | rfl | rfl
    · simp only [↓EVP0, EVQ0, EVQ1, EVQ2, EVQ3, EVQ4, EVA, EVK, EVF,EVFT, ↓reduceIte, Nat.reduceEqDiff, Nat.reduceAdd, Nat.reduceSub, Nat.reduceMul, Nat.reduceLT, Nat.reduceLeDiff, reduceCtorEq, Int.reduceToNat, Int.reduceLT, Int.reduceLE, Int.reduceAdd, Int.reduceSub, Int.reduceMul, Int.reduceNeg, Int.reduceEq, Nat.reduceMod, forall_eq_or_imp, forall_eq, forall_const, cond_true, cond_false, decide_true, decide_false, true_imp_iff, implies_true, Int.cast_ofNat_Int, forall_eq']
      try refine ⟨by omega, ?_⟩
      refine callK_ro (k2) ?_ ?_
      · simp only [↓EVP0, EVQ0, EVQ1, EVQ2, EVQ3, EVQ4, EVA, EVK, EVF,EVFT, ↓reduceIte, Nat.reduceEqDiff, Nat.reduceAdd, Nat.reduceSub, Nat.reduceMul, Nat.reduceLT, Nat.reduceLeDiff, reduceCtorEq, Int.reduceToNat, Int.reduceLT, Int.reduceLE, Int.reduceAdd, Int.reduceSub, Int.reduceMul, Int.reduceNeg, Int.reduceEq, Nat.reduceMod, forall_eq_or_imp, forall_eq, forall_const, cond_true, cond_false, decide_true, decide_false, true_imp_iff, implies_true, Int.cast_ofNat_Int, forall_eq']
      simp only [↓EVP0, EVQ0, EVQ1, EVQ2, EVQ3, EVQ4, EVA, EVK, EVF,EVFT, ↓reduceIte, Nat.reduceEqDiff, Nat.reduceAdd, Nat.reduceSub, Nat.reduceMul, Nat.reduceLT, Nat.reduceLeDiff, reduceCtorEq, Int.reduceToNat, Int.reduceLT, Int.reduceLE, Int.reduceAdd, Int.reduceSub, Int.reduceMul, Int.reduceNeg, Int.reduceEq, Nat.reduceMod, forall_eq_or_imp, forall_eq, forall_const, cond_true, cond_false, decide_true, decide_false, true_imp_iff, implies_true, Int.cast_ofNat_Int, forall_eq']
      cases hv : nmE c with
      | none =>
        have hn : rdC [wCa, b, c, d, e, f, g] = none := rdC7_none (.inl hv)
        rw [hno hn, hn]
        refine ⟨fun _ => ⟨⟨rfl, rfl, rfl, rfl, rfl, rfl⟩, ⟨rfl, rfl⟩, rfl⟩, fun h => by simp at h⟩
      | some v =>
        refine ⟨fun h => by simp at h, fun _ => ?_⟩
        exact ⟨by unfold In64; omega, (v, y, z, u), rfl, rfl⟩
    · simp only [↓EVP0, EVQ0, EVQ1, EVQ2, EVQ3, EVQ4, EVA, EVK, EVF,EVFT, ↓reduceIte, Nat.reduceEqDiff, Nat.reduceAdd, Nat.reduceSub, Nat.reduceMul, Nat.reduceLT, Nat.reduceLeDiff, reduceCtorEq, Int.reduceToNat, Int.reduceLT, Int.reduceLE, Int.reduceAdd, Int.reduceSub, Int.reduceMul, Int.reduceNeg, Int.reduceEq, Nat.reduceMod, forall_eq_or_imp, forall_eq, forall_const, cond_true, cond_false, decide_true, decide_false, true_imp_iff, implies_true, Int.cast_ofNat_Int, forall_eq']
      try refine ⟨by omega, ?_⟩
      refine callK_ro (k4) ?_ ?_
      · simp only [↓EVP0, EVQ0, EVQ1, EVQ2, EVQ3, EVQ4, EVA, EVK, EVF,EVFT, ↓reduceIte, Nat.reduceEqDiff, Nat.reduceAdd, Nat.reduceSub, Nat.reduceMul, Nat.reduceLT, Nat.reduceLeDiff, reduceCtorEq, Int.reduceToNat, Int.reduceLT, Int.reduceLE, Int.reduceAdd, Int.reduceSub, Int.reduceMul, Int.reduceNeg, Int.reduceEq, Nat.reduceMod, forall_eq_or_imp, forall_eq, forall_const, cond_true, cond_false, decide_true, decide_false, true_imp_iff, implies_true, Int.cast_ofNat_Int, forall_eq']
      simp only [↓EVP0, EVQ0, EVQ1, EVQ2, EVQ3, EVQ4, EVA, EVK, EVF,EVFT, ↓reduceIte, Nat.reduceEqDiff, Nat.reduceAdd, Nat.reduceSub, Nat.reduceMul, Nat.reduceLT, Nat.reduceLeDiff, reduceCtorEq, Int.reduceToNat, Int.reduceLT, Int.reduceLE, Int.reduceAdd, Int.reduceSub, Int.reduceMul, Int.reduceNeg, Int.reduceEq, Nat.reduceMod, forall_eq_or_imp, forall_eq, forall_const, cond_true, cond_false, decide_true, decide_false, true_imp_iff, implies_true, Int.cast_ofNat_Int, forall_eq']
      cases hv : nmE e with
      | none =>
        have hn : rdC [wCa, b, c, d, e, f, g] = none := rdC7_none (.inr (.inl hv))
        rw [hno hn, hn]
        refine ⟨fun _ => ⟨⟨rfl, rfl, rfl, rfl, rfl, rfl⟩, ⟨rfl, rfl⟩, rfl⟩, fun h => by simp at h⟩
      | some v =>
        refine ⟨fun h => by simp at h, fun _ => ?_⟩
        exact ⟨by unfold In64; omega, (x, v, z, u), ⟨i1 (by omega), rfl⟩, rfl⟩
    · simp only [↓EVP0, EVQ0, EVQ1, EVQ2, EVQ3, EVQ4, EVA, EVK, EVF,EVFT, ↓reduceIte, Nat.reduceEqDiff, Nat.reduceAdd, Nat.reduceSub, Nat.reduceMul, Nat.reduceLT, Nat.reduceLeDiff, reduceCtorEq, Int.reduceToNat, Int.reduceLT, Int.reduceLE, Int.reduceAdd, Int.reduceSub, Int.reduceMul, Int.reduceNeg, Int.reduceEq, Nat.reduceMod, forall_eq_or_imp, forall_eq, forall_const, cond_true, cond_false, decide_true, decide_false, true_imp_iff, implies_true, Int.cast_ofNat_Int, forall_eq']
      try refine ⟨by omega, ?_⟩
      refine callK_ro (k5) ?_ ?_
      · simp only [↓EVP0, EVQ0, EVQ1, EVQ2, EVQ3, EVQ4, EVA, EVK, EVF,EVFT, ↓reduceIte, Nat.reduceEqDiff, Nat.reduceAdd, Nat.reduceSub, Nat.reduceMul, Nat.reduceLT, Nat.reduceLeDiff, reduceCtorEq, Int.reduceToNat, Int.reduceLT, Int.reduceLE, Int.reduceAdd, Int.reduceSub, Int.reduceMul, Int.reduceNeg, Int.reduceEq, Nat.reduceMod, forall_eq_or_imp, forall_eq, forall_const, cond_true, cond_false, decide_true, decide_false, true_imp_iff, implies_true, Int.cast_ofNat_Int, forall_eq']
      simp only [↓EVP0, EVQ0, EVQ1, EVQ2, EVQ3, EVQ4, EVA, EVK, EVF,EVFT, ↓reduceIte, Nat.reduceEqDiff, Nat.reduceAdd, Nat.reduceSub, Nat.reduceMul, Nat.reduceLT, Nat.reduceLeDiff, reduceCtorEq, Int.reduceToNat, Int.reduceLT, Int.reduceLE, Int.reduceAdd, Int.reduceSub, Int.reduceMul, Int.reduceNeg, Int.reduceEq, Nat.reduceMod, forall_eq_or_imp, forall_eq, forall_const, cond_true, cond_false, decide_true, decide_false, true_imp_iff, implies_true, Int.cast_ofNat_Int, forall_eq']
      cases hv : nmE f with
      | none =>
        have hn : rdC [wCa, b, c, d, e, f, g] = none := rdC7_none (.inr (.inr (.inl hv)))
        rw [hno hn, hn]
        refine ⟨fun _ => ⟨⟨rfl, rfl, rfl, rfl, rfl, rfl⟩, ⟨rfl, rfl⟩, rfl⟩, fun h => by simp at h⟩
      | some v =>
        refine ⟨fun h => by simp at h, fun _ => ?_⟩
        exact ⟨by unfold In64; omega, (x, y, v, u), ⟨i1 (by omega), i2 (by omega), rfl⟩, rfl⟩
    · simp only [↓EVP0, EVQ0, EVQ1, EVQ2, EVQ3, EVQ4, EVA, EVK, EVF,EVFT, ↓reduceIte, Nat.reduceEqDiff, Nat.reduceAdd, Nat.reduceSub, Nat.reduceMul, Nat.reduceLT, Nat.reduceLeDiff, reduceCtorEq, Int.reduceToNat, Int.reduceLT, Int.reduceLE, Int.reduceAdd, Int.reduceSub, Int.reduceMul, Int.reduceNeg, Int.reduceEq, Nat.reduceMod, forall_eq_or_imp, forall_eq, forall_const, cond_true, cond_false, decide_true, decide_false, true_imp_iff, implies_true, Int.cast_ofNat_Int, forall_eq']
      try refine ⟨by omega, ?_⟩
      refine callK_ro (k6) ?_ ?_
      · simp only [↓EVP0, EVQ0, EVQ1, EVQ2, EVQ3, EVQ4, EVA, EVK, EVF,EVFT, ↓reduceIte, Nat.reduceEqDiff, Nat.reduceAdd, Nat.reduceSub, Nat.reduceMul, Nat.reduceLT, Nat.reduceLeDiff, reduceCtorEq, Int.reduceToNat, Int.reduceLT, Int.reduceLE, Int.reduceAdd, Int.reduceSub, Int.reduceMul, Int.reduceNeg, Int.reduceEq, Nat.reduceMod, forall_eq_or_imp, forall_eq, forall_const, cond_true, cond_false, decide_true, decide_false, true_imp_iff, implies_true, Int.cast_ofNat_Int, forall_eq']
      simp only [↓EVP0, EVQ0, EVQ1, EVQ2, EVQ3, EVQ4, EVA, EVK, EVF,EVFT, ↓reduceIte, Nat.reduceEqDiff, Nat.reduceAdd, Nat.reduceSub, Nat.reduceMul, Nat.reduceLT, Nat.reduceLeDiff, reduceCtorEq, Int.reduceToNat, Int.reduceLT, Int.reduceLE, Int.reduceAdd, Int.reduceSub, Int.reduceMul, Int.reduceNeg, Int.reduceEq, Nat.reduceMod, forall_eq_or_imp, forall_eq, forall_const, cond_true, cond_false, decide_true, decide_false, true_imp_iff, implies_true, Int.cast_ofNat_Int, forall_eq']
      cases hv : nmE g with
      | none =>
        have hn : rdC [wCa, b, c, d, e, f, g] = none := rdC7_none (.inr (.inr (.inr hv)))
        rw [hno hn, hn]
        refine ⟨fun _ => ⟨⟨rfl, rfl, rfl, rfl, rfl, rfl⟩, ⟨rfl, rfl⟩, rfl⟩, fun h => by simp at h⟩
      | some v =>
        refine ⟨fun h => by simp at h, fun _ => ?_⟩
        exact ⟨by unfold In64; omega, (x, y, z, v), ⟨i1 (by omega), i2 (by omega), i3 (by omega), rfl⟩, rfl⟩
    · simp only [↓EVP0, EVQ0, EVQ1, EVQ2, EVQ3, EVQ4, EVA, EVK, EVF,EVFT, ↓reduceIte, Nat.reduceEqDiff, Nat.reduceAdd, Nat.reduceSub, Nat.reduceMul, Nat.reduceLT, Nat.reduceLeDiff, reduceCtorEq, Int.reduceToNat, Int.reduceLT, Int.reduceLE, Int.reduceAdd, Int.reduceSub, Int.reduceMul, Int.reduceNeg, Int.reduceEq, Nat.reduceMod, forall_eq_or_imp, forall_eq, forall_const, cond_true, cond_false, decide_true, decide_false, true_imp_iff, implies_true, Int.cast_ofNat_Int, forall_eq']
      have hs := rdC7_some (b := b) (d := d) hb hd (i1 (by omega)) (i2 (by omega)) (i3 (by omega)) (i4 (by omega))
      have hcE : cbE [wCa, b, c, d, e, f, g] = (⟨0, x, 0, y, z, u⟩, b, d) := by unfold cbE; rw [hs]; rfl
      rw [hcE, hs]
      exact ⟨⟨rfl, rfl, rfl, rfl, rfl, rfl⟩, ⟨rfl, rfl⟩, rfl⟩
end Go.Proofs.YtchpncmmlhfemaaDoor
