/- DERIVED: THE SHELF's CONTRACTS AT THIS DUMP, IN PLAIN WORDS (tools/lay-plain.mjs out of 'TrydShelf.lean', which tools/lay-shelf.mjs wrote): THE SAME DECLARATIONS UNDER THE SAME NAMES: 'import', 'namespace', 'open', 'def', 'theorem' AND NOTHING ELSE: no command of the shelf's: FOR A HAND-IN. Each laying: the table of numbers ('.._ren') and one theorem, a field a fact of the dump's own or the kernel's comparison; each contract: ONE APPLICATION.; Texts: what the library's functions hand back; strconv.Itoa of any int, where the table of the powers of ten is as listed; Texts: strconv.Atoi, strings.Cut, strings.Split, where the world's variables are as listed; Texts in plain terms: cutting and splitting at a byte; numbers of a table; Texts of numbers, in plain terms: a number's text is read as that number; The text of a rational number, and how a text is read; How the reference reads a rational number, in plain terms; The reference's texts of rational numbers; The reference reads a rational number; The law RationalTexts; The argument that is a text, opened; What a world must hold, from what a row lists and from the shape of the variables. Conditions: none. -/
import Derived.Test.YtfhifkcbdpgomaaDoorME
import Derived.Shelf.Small.Bits
import Derived.Shelf.Strconv.Atoi
import Derived.Shelf.Strconv.Itoa0
import Derived.Shelf.Strconv.Itoa1
import Derived.Shelf.LaysM
import Derived.Shelf.Strconv.Itoa2
import Derived.Shelf.Strconv.Itoa3
import Derived.Shelf.Strconv.AtoiErrFast
import Derived.Shelf.Strconv.ParseIntEmpty
import Derived.Shelf.Strconv.AtoiFail
import Derived.Shelf.Strconv.Clone
import Derived.Shelf.Strconv.SyntaxError
import Derived.Shelf.LaysC
import Derived.Shelf.Strconv.ToError
import Derived.Shelf.Strconv.Lower
import Derived.Shelf.Strconv.ParseUint10
import Derived.Shelf.Strconv.ParseUint10Empty
import Derived.Shelf.Strconv.ParseUint10Any
import Derived.Shelf.Strconv.ParseInt10
import Derived.Shelf.Strconv.AtoiLong
import Derived.Shelf.Strconv.AtoiInnerAll
import Derived.Shelf.Strconv.RangeError
import Derived.Shelf.Strconv.ToErrorRange
import Derived.Shelf.Strconv.AtoiAll
import Derived.Shelf.Strconv.ParseUintEmpty
import Derived.Shelf.Strconv.ParseUint10b64
import Derived.Shelf.Strconv.ParseUint10b32
import Derived.Shelf.Strconv.ParseUint10b16
import Derived.Shelf.Strconv.ParseUint10b8
import Derived.Shelf.Strings.Search1
import Derived.Shelf.Strings.Search2
import Derived.Shelf.Strings.Cut
import Derived.Shelf.Strings.Shaped
import Derived.Shelf.Bits.Mul64
import Derived.Test.YtfhifkcbdpgomaaDoorProg
import Derived.Lib.ItoaLen
import Derived.Lib.LaidTab
import Derived.Stop.LaidErr
import Derived.KernelRfl
import Derived.Shelf.Vars
import Derived.FnData
namespace Go.Proofs
open Go.Shelf
def Tryd.laysM171_ren : Go.Shelf.Ren := ⟨fun | 171 => 15 | 243 => 31 | 246 => 42 | 283 => 50 | 284 => 51 | 285 => 52 | 286 => 53 | 129 => 61 | 317 => 62 | 318 => 63 | 319 => 64 | 320 => 65 | 337 => 70 | 338 => 71 | n => n, fun | 3 => 3 | 9 => 9 | 2 => 2 | 4 => 4 | 171 => 79 | 0 => 0 | 53 => 40 | 37 => 72 | 5 => 5 | 173 => 81 | 212 => 91 | 51 => 92 | 20 => 20 | 213 => 93 | 46 => 67 | 232 => 105 | 233 => 106 | n => n, fun | 17 => 5 | 18 => 6 | 19 => 7 | n => n⟩
theorem Tryd.laysM171 : Go.Proofs.LaysM.n171 Tryd.prog Tryd.laysM171_ren := {
  mixed := by kernel_rfl
  f129 := Tryd.func61.trans (congrArg some (by kernel_rfl))
  f171 := Tryd.func15.trans (congrArg some (by kernel_rfl))
  f243 := Tryd.func31.trans (congrArg some (by kernel_rfl))
  f246 := Tryd.func42.trans (congrArg some (by kernel_rfl))
  f283 := Tryd.func50.trans (congrArg some (by kernel_rfl))
  f284 := Tryd.func51.trans (congrArg some (by kernel_rfl))
  f285 := Tryd.func52.trans (congrArg some (by kernel_rfl))
  f286 := Tryd.func53.trans (congrArg some (by kernel_rfl))
  f317 := Tryd.func62.trans (congrArg some (by kernel_rfl))
  f318 := Tryd.func63.trans (congrArg some (by kernel_rfl))
  f319 := Tryd.func64.trans (congrArg some (by kernel_rfl))
  f320 := Tryd.func65.trans (congrArg some (by kernel_rfl))
  f337 := Tryd.func70.trans (congrArg some (by kernel_rfl))
  f338 := Tryd.func71.trans (congrArg some (by kernel_rfl))
  t0 := Tryd.underlying0
  a0 := Tryd.isAgg0
  z0 := Tryd.sizeOf0
  v0 := Tryd.zeroValue0
  t2 := Tryd.underlying2
  a2 := Tryd.isAgg2
  z2 := Tryd.sizeOf2
  v2 := Tryd.zeroValue2
  t3 := Tryd.underlying3
  a3 := Tryd.isAgg3
  z3 := Tryd.sizeOf3
  v3 := Tryd.zeroValue3
  t4 := Tryd.underlying4
  a4 := Tryd.isAgg4
  z4 := Tryd.sizeOf4
  v4 := Tryd.zeroValue4
  t5 := Tryd.underlying5
  a5 := Tryd.isAgg5
  z5 := Tryd.sizeOf5
  v5 := Tryd.zeroValue5
  t9 := Tryd.underlying9
  a9 := Tryd.isAgg9
  z9 := Tryd.sizeOf9
  v9 := Tryd.zeroValue9
  t20 := Tryd.underlying20
  a20 := Tryd.isAgg20
  z20 := Tryd.sizeOf20
  v20 := Tryd.zeroValue20
  t37 := Tryd.underlying72
  a37 := Tryd.isAgg72
  z37 := Tryd.sizeOf72
  v37 := Tryd.zeroValue72
  t46 := Tryd.underlying67
  a46 := Tryd.isAgg67
  z46 := Tryd.sizeOf67
  v46 := Tryd.zeroValue67
  t51 := Tryd.underlying92
  a51 := Tryd.isAgg92
  z51 := Tryd.sizeOf92
  v51 := Tryd.zeroValue92
  t53 := Tryd.underlying40
  a53 := Tryd.isAgg40
  z53 := Tryd.sizeOf40
  v53 := Tryd.zeroValue40
  t171 := Tryd.underlying79
  a171 := Tryd.isAgg79
  z171 := Tryd.sizeOf79
  v171 := Tryd.zeroValue79
  t173 := Tryd.underlying81
  a173 := Tryd.isAgg81
  z173 := Tryd.sizeOf81
  v173 := Tryd.zeroValue81
  t212 := Tryd.underlying91
  a212 := Tryd.isAgg91
  z212 := Tryd.sizeOf91
  v212 := Tryd.zeroValue91
  t213 := Tryd.underlying93
  a213 := Tryd.isAgg93
  z213 := Tryd.sizeOf93
  t232 := Tryd.underlying105
  a232 := Tryd.isAgg105
  z232 := Tryd.sizeOf105
  v232 := Tryd.zeroValue105
  t233 := Tryd.underlying106
  a233 := Tryd.isAgg106
  z233 := Tryd.sizeOf106
  v233 := Tryd.zeroValue106
  g17 := by kernel_rfl
  g18 := by kernel_rfl
  g19 := by kernel_rfl
  i0 := by kernel_rfl
  i2 := by kernel_rfl
  i3 := by kernel_rfl
  i4 := by kernel_rfl
  i5 := by kernel_rfl
  i9 := by kernel_rfl
  i20 := by kernel_rfl
  i37 := by kernel_rfl
  i46 := by kernel_rfl
  i51 := by kernel_rfl
  i53 := by kernel_rfl
  i171 := by kernel_rfl
  i173 := by kernel_rfl
  i212 := by kernel_rfl
  i232 := by kernel_rfl
  i233 := by kernel_rfl
  m17 := by kernel_rfl
  m18 := by kernel_rfl
  m19 := by kernel_rfl }
open Go.RowKit Go.Sort Go.Lib in
theorem Tryd.strconv_Itoa (n : Int) (h0 : -9223372036854775808 ≤ n) (h1 : n ≤ 9223372036854775807) (w : World) (htab : Lib.TabIs Tryd.prog w "internal/strconv.uint64pow10" .u64 Lib.pow10Tab) :
    Calls Tryd.prog 15 #[.int .i64 n] w fun e w' => e = .returned (.string ⟨(Lib.itoa n).toArray⟩) ∧ ∃ k os, w' = grow (w.drewN k) os := Any.strconv_Itoa Tryd.laysM171 n h0 h1 w htab
def Tryd.laysC172_ren : Go.Shelf.Ren := ⟨fun | 172 => 19 | 244 => 33 | 245 => 34 | 247 => 44 | 279 => 45 | 280 => 46 | 281 => 47 | 282 => 48 | 287 => 58 | 316 => 59 | 171 => 15 | 205 => 60 | 321 => 68 | 322 => 69 | 243 => 31 | 246 => 42 | 283 => 50 | 284 => 51 | 285 => 52 | 286 => 53 | 129 => 61 | 317 => 62 | 318 => 63 | 319 => 64 | 320 => 65 | 337 => 70 | 338 => 71 | n => n, fun | 9 => 9 | 3 => 3 | 75 => 46 | 76 => 47 | 4 => 4 | 5 => 5 | 167 => 71 | 37 => 72 | 0 => 0 | 85 => 73 | 2 => 2 | 168 => 75 | 53 => 40 | 175 => 84 | 46 => 67 | 210 => 88 | 127 => 100 | 145 => 103 | 143 => 101 | 21 => 21 | 171 => 79 | 173 => 81 | 212 => 91 | 51 => 92 | 20 => 20 | 213 => 93 | 232 => 105 | 233 => 106 | 80 => 107 | n => n, fun | 15 => 3 | 16 => 4 | 17 => 5 | 18 => 6 | 19 => 7 | n => n⟩
theorem Tryd.laysC172 : Go.Proofs.LaysC.n172 Tryd.prog Tryd.laysC172_ren := {
  mixed := by kernel_rfl
  f129 := Tryd.func61.trans (congrArg some (by kernel_rfl))
  f171 := Tryd.func15.trans (congrArg some (by kernel_rfl))
  f172 := Tryd.func19.trans (congrArg some (by kernel_rfl))
  f205 := Tryd.func60.trans (congrArg some (by kernel_rfl))
  f243 := Tryd.func31.trans (congrArg some (by kernel_rfl))
  f244 := Tryd.func33.trans (congrArg some (by kernel_rfl))
  f245 := Tryd.func34.trans (congrArg some (by kernel_rfl))
  f246 := Tryd.func42.trans (congrArg some (by kernel_rfl))
  f247 := Tryd.func44.trans (congrArg some (by kernel_rfl))
  f279 := Tryd.func45.trans (congrArg some (by kernel_rfl))
  f280 := Tryd.func46.trans (congrArg some (by kernel_rfl))
  f281 := Tryd.func47.trans (congrArg some (by kernel_rfl))
  f282 := Tryd.func48.trans (congrArg some (by kernel_rfl))
  f283 := Tryd.func50.trans (congrArg some (by kernel_rfl))
  f284 := Tryd.func51.trans (congrArg some (by kernel_rfl))
  f285 := Tryd.func52.trans (congrArg some (by kernel_rfl))
  f286 := Tryd.func53.trans (congrArg some (by kernel_rfl))
  f287 := Tryd.func58.trans (congrArg some (by kernel_rfl))
  f316 := Tryd.func59.trans (congrArg some (by kernel_rfl))
  f317 := Tryd.func62.trans (congrArg some (by kernel_rfl))
  f318 := Tryd.func63.trans (congrArg some (by kernel_rfl))
  f319 := Tryd.func64.trans (congrArg some (by kernel_rfl))
  f320 := Tryd.func65.trans (congrArg some (by kernel_rfl))
  f321 := Tryd.func68.trans (congrArg some (by kernel_rfl))
  f322 := Tryd.func69.trans (congrArg some (by kernel_rfl))
  f337 := Tryd.func70.trans (congrArg some (by kernel_rfl))
  f338 := Tryd.func71.trans (congrArg some (by kernel_rfl))
  t0 := Tryd.underlying0
  a0 := Tryd.isAgg0
  z0 := Tryd.sizeOf0
  v0 := Tryd.zeroValue0
  t2 := Tryd.underlying2
  a2 := Tryd.isAgg2
  z2 := Tryd.sizeOf2
  v2 := Tryd.zeroValue2
  t3 := Tryd.underlying3
  a3 := Tryd.isAgg3
  z3 := Tryd.sizeOf3
  v3 := Tryd.zeroValue3
  t4 := Tryd.underlying4
  a4 := Tryd.isAgg4
  z4 := Tryd.sizeOf4
  v4 := Tryd.zeroValue4
  t5 := Tryd.underlying5
  a5 := Tryd.isAgg5
  z5 := Tryd.sizeOf5
  v5 := Tryd.zeroValue5
  t9 := Tryd.underlying9
  a9 := Tryd.isAgg9
  z9 := Tryd.sizeOf9
  v9 := Tryd.zeroValue9
  t20 := Tryd.underlying20
  a20 := Tryd.isAgg20
  z20 := Tryd.sizeOf20
  v20 := Tryd.zeroValue20
  t21 := Tryd.underlying21
  a21 := Tryd.isAgg21
  z21 := Tryd.sizeOf21
  v21 := Tryd.zeroValue21
  t37 := Tryd.underlying72
  a37 := Tryd.isAgg72
  z37 := Tryd.sizeOf72
  v37 := Tryd.zeroValue72
  t46 := Tryd.underlying67
  a46 := Tryd.isAgg67
  z46 := Tryd.sizeOf67
  v46 := Tryd.zeroValue67
  t51 := Tryd.underlying92
  a51 := Tryd.isAgg92
  z51 := Tryd.sizeOf92
  v51 := Tryd.zeroValue92
  t53 := Tryd.underlying40
  a53 := Tryd.isAgg40
  z53 := Tryd.sizeOf40
  v53 := Tryd.zeroValue40
  t75 := Tryd.underlying46
  a75 := Tryd.isAgg46
  z75 := Tryd.sizeOf46
  v75 := Tryd.zeroValue46
  t76 := Tryd.underlying47
  a76 := Tryd.isAgg47
  z76 := Tryd.sizeOf47
  v76 := Tryd.zeroValue47
  t85 := Tryd.underlying73
  a85 := Tryd.isAgg73
  z85 := Tryd.sizeOf73
  v85 := Tryd.zeroValue73
  t127 := Tryd.underlying100
  a127 := Tryd.isAgg100
  z127 := Tryd.sizeOf100
  v127 := Tryd.zeroValue100
  t143 := Tryd.underlying101
  a143 := Tryd.isAgg101
  z143 := Tryd.sizeOf101
  v143 := Tryd.zeroValue101
  t145 := Tryd.underlying103
  a145 := Tryd.isAgg103
  z145 := Tryd.sizeOf103
  v145 := Tryd.zeroValue103
  t167 := Tryd.underlying71
  a167 := Tryd.isAgg71
  z167 := Tryd.sizeOf71
  v167 := Tryd.zeroValue71
  t168 := Tryd.underlying75
  a168 := Tryd.isAgg75
  z168 := Tryd.sizeOf75
  v168 := Tryd.zeroValue75
  t171 := Tryd.underlying79
  a171 := Tryd.isAgg79
  z171 := Tryd.sizeOf79
  v171 := Tryd.zeroValue79
  t173 := Tryd.underlying81
  a173 := Tryd.isAgg81
  z173 := Tryd.sizeOf81
  v173 := Tryd.zeroValue81
  t175 := Tryd.underlying84
  a175 := Tryd.isAgg84
  z175 := Tryd.sizeOf84
  v175 := Tryd.zeroValue84
  t210 := Tryd.underlying88
  a210 := Tryd.isAgg88
  z210 := Tryd.sizeOf88
  v210 := Tryd.zeroValue88
  t212 := Tryd.underlying91
  a212 := Tryd.isAgg91
  z212 := Tryd.sizeOf91
  v212 := Tryd.zeroValue91
  t213 := Tryd.underlying93
  a213 := Tryd.isAgg93
  z213 := Tryd.sizeOf93
  t232 := Tryd.underlying105
  a232 := Tryd.isAgg105
  z232 := Tryd.sizeOf105
  v232 := Tryd.zeroValue105
  t233 := Tryd.underlying106
  a233 := Tryd.isAgg106
  z233 := Tryd.sizeOf106
  v233 := Tryd.zeroValue106
  g15 := by kernel_rfl
  g16 := by kernel_rfl
  g17 := by kernel_rfl
  g18 := by kernel_rfl
  g19 := by kernel_rfl
  t80 := Tryd.underlying107
  a80 := Tryd.isAgg107
  z80 := Tryd.sizeOf107
  v80 := Tryd.zeroValue107
  i0 := by kernel_rfl
  i2 := by kernel_rfl
  i3 := by kernel_rfl
  i4 := by kernel_rfl
  i5 := by kernel_rfl
  i9 := by kernel_rfl
  i20 := by kernel_rfl
  i21 := by kernel_rfl
  i37 := by kernel_rfl
  i46 := by kernel_rfl
  i51 := by kernel_rfl
  i53 := by kernel_rfl
  i75 := by kernel_rfl
  i76 := by kernel_rfl
  i80 := by kernel_rfl
  i85 := by kernel_rfl
  i127 := by kernel_rfl
  i143 := by kernel_rfl
  i145 := by kernel_rfl
  i167 := by kernel_rfl
  i168 := by kernel_rfl
  i171 := by kernel_rfl
  i173 := by kernel_rfl
  i175 := by kernel_rfl
  i210 := by kernel_rfl
  i212 := by kernel_rfl
  i232 := by kernel_rfl
  i233 := by kernel_rfl
  m15 := by kernel_rfl
  m16 := by kernel_rfl
  m17 := by kernel_rfl
  m18 := by kernel_rfl
  m19 := by kernel_rfl
  c0 := by kernel_rfl
  c2 := by kernel_rfl
  c3 := by kernel_rfl
  c4 := by kernel_rfl
  c5 := by kernel_rfl
  c9 := by kernel_rfl
  c20 := by kernel_rfl
  c21 := by kernel_rfl
  c37 := by kernel_rfl
  c46 := by kernel_rfl
  c51 := by kernel_rfl
  c53 := by kernel_rfl
  c75 := by kernel_rfl
  c76 := by kernel_rfl
  c80 := by kernel_rfl
  c85 := by kernel_rfl
  c127 := by kernel_rfl
  c143 := by kernel_rfl
  c145 := by kernel_rfl
  c167 := by kernel_rfl
  c168 := by kernel_rfl
  c171 := by kernel_rfl
  c173 := by kernel_rfl
  c175 := by kernel_rfl
  c210 := by kernel_rfl
  c212 := by kernel_rfl
  c213 := by kernel_rfl
  c232 := by kernel_rfl
  c233 := by kernel_rfl }
open Go.RowKit in
theorem Tryd.strconv_Atoi_ok (s : ByteArray) (hmax : s.size ≤ 9223372036854775806) (v : Int) (h : Lib.atoiAll s.data.toList = .ok v) (w : World) :
    Calls Tryd.prog 19 #[.string s] w fun e w' => e = .returned (.tuple #[.int .i64 v, .nilIface]) ∧ (w' = w ∨ ∃ t, w' = Lib.bytesWorld w 5 t) := Any.strconv_Atoi_ok Tryd.laysC172 s hmax v h w
open Go.RowKit in
theorem Tryd.strconv_Atoi_syntax (s : ByteArray) (hlim : s.size ≤ 281474976710656) (h : Lib.atoiAll s.data.toList = Lib.atoiAll []) (ev : Value) (w : World) (hv : w.cell? ⟨3, 0, none⟩ = some ev) (hev : ev = .nilIface ∨ ∃ te pe, ev = .iface te pe) :
    Calls Tryd.prog 19 #[.string s] w fun e w' => ∃ N, e = .returned (.tuple #[.int .i64 (0), .iface 75 (.pointer (some ⟨N, 0, none⟩))]) ∧ w.heap.size ≤ N ∧ w'.heap[N]? = some (.cells #[.string ⟨#[65, 116, 111, 105]⟩, .string s, ev] 88 (0, 0)) ∧ Below w.heap.size w w' := Any.strconv_Atoi_syntax Tryd.laysC172 s hlim h ev w hv hev
open Go.RowKit in
theorem Tryd.strconv_Atoi_range (s : ByteArray) (hlim : s.size ≤ 281474976710656) (h : Lib.atoiAll s.data.toList = .range) (ev : Value) (w : World) (hv : w.cell? ⟨4, 0, none⟩ = some ev) (hev : ev = .nilIface ∨ ∃ te pe, ev = .iface te pe) :
    Calls Tryd.prog 19 #[.string s] w fun e w' => ∃ N, e = .returned (.tuple #[.int .i64 (Lib.atoiSat s.data.toList), .iface 75 (.pointer (some ⟨N, 0, none⟩))]) ∧ w.heap.size ≤ N ∧ w'.heap[N]? = some (.cells #[.string ⟨#[65, 116, 111, 105]⟩, .string s, ev] 88 (0, 0)) ∧ Below w.heap.size w w' := Any.strconv_Atoi_range Tryd.laysC172 s hlim h ev w hv hev
def Tryd.lays145_ren : Go.Shelf.Ren := ⟨fun | 145 => 18 | 220 => 32 | 219 => 43 | 217 => 54 | 225 => 55 | 224 => 56 | 267 => 57 | 266 => 66 | 314 => 67 | n => n, fun | 9 => 9 | 4 => 4 | 59 => 43 | 3 => 3 | 5 => 5 | 46 => 67 | 146 => 96 | 51 => 92 | n => n, fun | 1 => 2 | n => n⟩
theorem Tryd.lays145 : Go.Proofs.Lays.n145 Tryd.prog Tryd.lays145_ren := {
  mixed := by kernel_rfl
  f145 := Tryd.func18.trans (congrArg some (by kernel_rfl))
  f217 := Tryd.func54.trans (congrArg some (by kernel_rfl))
  f219 := Tryd.func43.trans (congrArg some (by kernel_rfl))
  f220 := Tryd.func32.trans (congrArg some (by kernel_rfl))
  f224 := Tryd.func56.trans (congrArg some (by kernel_rfl))
  f225 := Tryd.func55.trans (congrArg some (by kernel_rfl))
  f266 := Tryd.func66.trans (congrArg some (by kernel_rfl))
  f267 := Tryd.func57.trans (congrArg some (by kernel_rfl))
  f314 := Tryd.func67.trans (congrArg some (by kernel_rfl))
  t3 := Tryd.underlying3
  a3 := Tryd.isAgg3
  z3 := Tryd.sizeOf3
  v3 := Tryd.zeroValue3
  t4 := Tryd.underlying4
  a4 := Tryd.isAgg4
  z4 := Tryd.sizeOf4
  v4 := Tryd.zeroValue4
  t5 := Tryd.underlying5
  a5 := Tryd.isAgg5
  z5 := Tryd.sizeOf5
  v5 := Tryd.zeroValue5
  t9 := Tryd.underlying9
  a9 := Tryd.isAgg9
  z9 := Tryd.sizeOf9
  v9 := Tryd.zeroValue9
  t46 := Tryd.underlying67
  a46 := Tryd.isAgg67
  z46 := Tryd.sizeOf67
  v46 := Tryd.zeroValue67
  t51 := Tryd.underlying92
  a51 := Tryd.isAgg92
  z51 := Tryd.sizeOf92
  v51 := Tryd.zeroValue92
  t59 := Tryd.underlying43
  a59 := Tryd.isAgg43
  z59 := Tryd.sizeOf43
  v59 := Tryd.zeroValue43
  t146 := Tryd.underlying96
  a146 := Tryd.isAgg96
  z146 := Tryd.sizeOf96
  v146 := Tryd.zeroValue96
  g1 := by kernel_rfl }
open Go.RowKit Go.Lib in
theorem Tryd.strings_Cut (s sep : ByteArray) (m : Int) (w : World) (hs : s.size < 4294967281) (hm : w.cell? ⟨2, 0, none⟩ = some (.int .i64 m)) :
    Calls Tryd.prog 18 #[.string s, .string sep] w fun e w' => e = .returned (.tuple #[.string ⟨(Lib.cut s.data.toList sep.data.toList).1.toArray⟩, .string ⟨(Lib.cut s.data.toList sep.data.toList).2.1.toArray⟩, .bool (Lib.cut s.data.toList sep.data.toList).2.2]) ∧ ∃ n, w' = w.drewN n := Any.strings_Cut Tryd.lays145 s sep m w hs hm
end Go.Proofs
namespace Go.Proofs.YtfhifkcbdpgomaaDoor
set_option linter.unusedSimpArgs false
set_option linter.unusedVariables false
open Go.RowKit
set_option maxRecDepth 20000

theorem sc_inv {R : RO} {a v : Value} (h : Ro R (.sc a) v) : v = a := by cases h; rfl
end Go.Proofs.YtfhifkcbdpgomaaDoor
namespace Go.Proofs.YtfhifkcbdpgomaaDoor
set_option linter.unusedSimpArgs false
set_option linter.unusedVariables false
open Go.RowKit
set_option maxRecDepth 20000

theorem ev_itoaA (n : Int) (hn : In64 n) : Ev Tryd.prog 15 [.sc (.int .i64 n)] (.sc (.string ⟨(Lib.itoa n).toArray⟩)) := by
  rintro R w ⟨vs⟩ hR hgl hs ha
  match vs, hs with
  | [v], _ =>
    have h0 : v = .int .i64 n := sc_inv (ha 0 _ rfl)
    subst h0
    refine (Tryd.strconv_Itoa n hn.1 hn.2 w (hgl w hR).1).mono ?_
    rintro e w' ⟨rfl, k, os, rfl⟩
    have hB : Below w.heap.size w (Go.Sort.grow (w.drewN k) os) := by
      refine ⟨rfl, rfl, rfl, ?_, ?_⟩
      · simp [Go.Sort.grow, World.drewN]
      · intro b hb
        simp only [Go.Sort.grow, World.drewN]
        rw [Array.getElem?_append_left (by simpa using hb)]
    refine ⟨_, R, rfl, fun _ _ h => h, fun _ _ => rfl, fun b q hb => ?_, hB, .sc _ rfl⟩
    have h1 := hR b q hb
    have : b < w.heap.size := by
      rcases Nat.lt_or_ge b w.heap.size with h | h
      · exact h
      · rw [Array.getElem?_eq_none h] at h1; simp at h1
    rw [hB.block b this]; exact h1
end Go.Proofs.YtfhifkcbdpgomaaDoor
namespace Go.Proofs.YtfhifkcbdpgomaaDoor
set_option linter.unusedSimpArgs false
set_option linter.unusedVariables false
open Go.RowKit
set_option maxRecDepth 20000

theorem below_drewN (w : World) (n : Nat) : Below w.heap.size w (w.drewN n) := ⟨rfl, rfl, rfl, Nat.le_refl _, fun _ _ => rfl⟩
theorem ro_lt {R : RO} {w : World} (hR : ∀ b o, R b = some o → w.heap[b]? = some o) {b : Nat} {o : Obj} (h : R b = some o) : b < w.heap.size := by
  have h1 := hR b o h
  rcases Nat.lt_or_ge b w.heap.size with h | h
  · exact h
  · rw [Array.getElem?_eq_none h] at h1; simp at h1
theorem ev_cutS (s sep : ByteArray) (hs : s.size < 4294967281) : Ev Tryd.prog 18 [.sc (.string s), .sc (.string sep)]
    (.tup [.sc (.string ⟨(Lib.cut s.data.toList sep.data.toList).1.toArray⟩), .sc (.string ⟨(Lib.cut s.data.toList sep.data.toList).2.1.toArray⟩), .sc (.bool (Lib.cut s.data.toList sep.data.toList).2.2)]) := by
  rintro R w ⟨vs⟩ hR hgl hs2 ha
  match vs, hs2 with
  | [v, u], _ =>
    have h0 : v = .string s := sc_inv (ha 0 _ rfl)
    have h1 : u = .string sep := sc_inv (ha 1 _ rfl)
    subst h0; subst h1
    obtain ⟨m, hm⟩ := (hgl w hR).2.1
    refine (Tryd.strings_Cut s sep m w hs hm).mono ?_
    rintro e w' ⟨rfl, n, rfl⟩
    refine ⟨_, R, rfl, fun _ _ h => h, fun _ _ => rfl, fun b q hb => hR b q hb, below_drewN _ _, .tup _ _ rfl fun i c hi => ?_⟩
    match i, hi with
    | 0, hi => simp at hi; subst hi; exact .sc _ rfl
    | 1, hi => simp at hi; subst hi; exact .sc _ rfl
    | 2, hi => simp at hi; subst hi; exact .sc _ rfl
    | i + 3, hi => simp at hi
def atoiN (l : List UInt8) : Int := match Lib.atoiAll l with
  | .ok v => v
  | .range => Lib.atoiSat l
  | _ => 0
def atoiB (l : List UInt8) : Bool := match Lib.atoiAll l with
  | .ok _ => true
  | _ => false
theorem ev_atoi (s : ByteArray) (hs : s.size ≤ 281474976710656) : Ev Tryd.prog 19 [.sc (.string s)] (.tup [.sc (.int .i64 (atoiN s.data.toList)), .ifc (atoiB s.data.toList)]) := by
  rintro R w ⟨vs⟩ hR hgl hs2 ha
  match vs, hs2 with
  | [v], _ =>
    have h0 : v = .string s := sc_inv (ha 0 _ rfl)
    subst h0
    obtain ⟨_, _, ⟨e1, hv1, he1⟩, ⟨e2, hv2, he2⟩⟩ := hgl w hR
    unfold atoiN atoiB
    cases h : Lib.atoiAll s.data.toList with
    | ok v =>
      refine (Tryd.strconv_Atoi_ok s (by omega) v h w).mono ?_
      rintro e w' ⟨rfl, hw⟩
      have hB : Below w.heap.size w w' := by
        rcases hw with rfl | ⟨t, rfl⟩
        · exact Below.refl _ _
        · exact Lib.bytesWorld_below _ _ _
      refine ⟨_, R, rfl, fun _ _ h => h, fun _ _ => rfl, fun b q hb => by rw [hB.block b (ro_lt hR hb)]; exact hR b q hb, hB, .tup _ _ rfl fun i c hi => ?_⟩
      match i, hi with
      | 0, hi => simp at hi; subst hi; exact .sc _ rfl
      | 1, hi => simp at hi; subst hi; exact .ifc _ _ rfl
      | i + 2, hi => simp at hi
    | range =>
      refine (Tryd.strconv_Atoi_range s hs h e2 w hv2 he2).mono ?_
      rintro e w' ⟨N, rfl, _, _, hB⟩
      refine ⟨_, R, rfl, fun _ _ h => h, fun _ _ => rfl, fun b q hb => by rw [hB.block b (ro_lt hR hb)]; exact hR b q hb, hB, .tup _ _ rfl fun i c hi => ?_⟩
      match i, hi with
      | 0, hi => simp at hi; subst hi; exact .sc _ rfl
      | 1, hi => simp at hi; subst hi; exact .ifc _ _ rfl
      | i + 2, hi => simp at hi
    | _ =>
      refine (Tryd.strconv_Atoi_syntax s hs h e1 w hv1 he1).mono ?_
      rintro e w' ⟨N, rfl, _, _, hB⟩
      refine ⟨_, R, rfl, fun _ _ h => h, fun _ _ => rfl, fun b q hb => by rw [hB.block b (ro_lt hR hb)]; exact hR b q hb, hB, .tup _ _ rfl fun i c hi => ?_⟩
      match i, hi with
      | 0, hi => simp at hi; subst hi; exact .sc _ rfl
      | 1, hi => simp at hi; subst hi; exact .ifc _ _ rfl
      | i + 2, hi => simp at hi
end Go.Proofs.YtfhifkcbdpgomaaDoor
namespace Go.Proofs.YtfhifkcbdpgomaaDoor
set_option linter.unusedSimpArgs false
set_option linter.unusedVariables false
open Go.RowKit
set_option maxRecDepth 20000

abbrev By := List UInt8
def strB (l : By) : ByteArray := ⟨l.toArray⟩
theorem strB_data (l : By) : (strB l).data.toList = l := by simp [strB]
theorem strB_size (l : By) : (strB l).size = l.length := by simp [strB, ByteArray.size]
theorem strB_inj {a b : By} (h : strB a = strB b) : a = b := by rw [← strB_data a, h, strB_data]
theorem strB_of (s : ByteArray) : strB s.data.toList = s := by cases s; simp [strB]
def cutE (c : UInt8) : By → By × By × Bool
  | [] => ([], [], false)
  | b :: r => if b = c then ([], r, true) else (b :: (cutE c r).1, (cutE c r).2.1, (cutE c r).2.2)
theorem idx_hit {c : UInt8} {r : By} : Lib.index (c :: r) [c] = 0 := by
  rw [Lib.index_one]; unfold Lib.indexByte; simp
theorem idx_miss {c b : UInt8} {r : By} (h : b ≠ c) : Lib.index (b :: r) [c] = if Lib.index r [c] = -1 then -1 else Lib.index r [c] + 1 := by
  rw [Lib.index_one, Lib.index_one]
  show (if (b == c) = true then (0 : Int) else if (Lib.indexByte r c == -1) = true then -1 else Lib.indexByte r c + 1) = _
  simp [h]
theorem idx_cut (c : UInt8) : ∀ l : By, ((cutE c l).2.2 = false ∧ Lib.index l [c] = -1 ∧ (cutE c l).1 = l ∧ (cutE c l).2.1 = []) ∨ ∃ i : Nat, (cutE c l).2.2 = true ∧ Lib.index l [c] = i ∧ i < l.length ∧ (cutE c l).1 = l.take i ∧ (cutE c l).2.1 = l.drop (i + 1)
  | [] => .inl ⟨rfl, rfl, rfl, rfl⟩
  | b :: r => by
    by_cases h : b = c
    · subst h
      refine .inr ⟨0, ?_, idx_hit, by simp, ?_, ?_⟩ <;> unfold cutE <;> rw [if_pos rfl] <;> rfl
    · have e : cutE c (b :: r) = (b :: (cutE c r).1, (cutE c r).2.1, (cutE c r).2.2) := by
        show (if b = c then _ else _) = _
        rw [if_neg h]
      rw [e, idx_miss h]
      rcases idx_cut c r with ⟨h1, h2, h3, h4⟩ | ⟨i, h1, h2, h3, h4, h5⟩
      · refine .inl ⟨h1, by rw [if_pos h2], by simp only; rw [h3], h4⟩
      · refine .inr ⟨i + 1, h1, by rw [if_neg (by omega), h2]; omega, by simp; omega, by simp only; rw [h4]; rfl, by simp only; rw [h5]; rfl⟩
theorem lib_cut (c : UInt8) (l : By) : Lib.cut l [c] = cutE c l := by
  unfold Lib.cut
  rcases idx_cut c l with ⟨h1, h2, h3, h4⟩ | ⟨i, h1, h2, h3, h4, h5⟩
  · rw [if_neg (by omega)]
    conv => rhs; rw [← Prod.eta (cutE c l), ← Prod.eta (cutE c l).2]
    rw [h1, h3, h4]
  · rw [if_pos (by omega), h2]
    conv => rhs; rw [← Prod.eta (cutE c l), ← Prod.eta (cutE c l).2]
    rw [h1, h4, h5]; rfl
theorem ev_cut (l : By) (c : UInt8) (hs : l.length < 4294967281) : Ev Tryd.prog 18 [.sc (.string (strB l)), .sc (.string (strB [c]))]
    (.tup [.sc (.string (strB (cutE c l).1)), .sc (.string (strB (cutE c l).2.1)), .sc (.bool (cutE c l).2.2)]) := by
  have h := ev_cutS (strB l) (strB [c]) (by rw [strB_size]; exact hs)
  rw [strB_data, strB_data, lib_cut] at h
  exact h
end Go.Proofs.YtfhifkcbdpgomaaDoor
namespace Go.Proofs.YtfhifkcbdpgomaaDoor
set_option linter.unusedSimpArgs false
set_option linter.unusedVariables false
open Go.RowKit
set_option maxRecDepth 20000

theorem dig_nat {m : Nat} (h : m < 10) : (UInt8.ofNat (48 + m)).toNat = 48 + m := by
  rw [UInt8.toNat_ofNat']; omega
theorem ddS {n : Nat} (h : n < 10) : Lib.decDigits n = [UInt8.ofNat (48 + n % 10)] := by
  rw [Lib.decDigits, dif_pos h, Nat.mod_eq_of_lt h]
theorem ddB {n : Nat} (h : ¬ n < 10) : Lib.decDigits n = Lib.decDigits (n / 10) ++ [UInt8.ofNat (48 + n % 10)] := by
  rw [Lib.decDigits, dif_neg h]
theorem dd_chars : ∀ n : Nat, ∀ c, c ∈ Lib.decDigits n → 48 ≤ c.toNat ∧ c.toNat ≤ 57 := by
  intro n
  induction n using Nat.strongRecOn with
  | ind n ih =>
    intro c hc
    have hd : ∀ x, x = UInt8.ofNat (48 + n % 10) → 48 ≤ x.toNat ∧ x.toNat ≤ 57 := by
      rintro x rfl
      rw [dig_nat (Nat.mod_lt _ (by omega))]
      have := Nat.mod_lt n (show 0 < 10 by omega)
      omega
    by_cases h : n < 10
    · rw [ddS h] at hc
      exact hd c (by simpa using hc)
    · rw [ddB h] at hc
      rcases List.mem_append.1 hc with hc | hc
      · exact ih (n / 10) (by omega) c hc
      · exact hd c (by simpa using hc)
theorem dd_ne (n : Nat) : Lib.decDigits n ≠ [] := by
  by_cases h : n < 10
  · rw [ddS h]; simp
  · rw [ddB h]; simp
theorem pu_dd : ∀ u : Nat, u < 18446744073709551616 → ∀ rest : By, Lib.parseUint10 0 (Lib.decDigits u ++ rest) = Lib.parseUint10 u rest := by
  intro u
  induction u using Nat.strongRecOn with
  | ind u ih =>
    intro hu rest
    have hm := Nat.mod_lt u (show 0 < 10 by omega)
    have hd := dig_nat hm
    have step : ∀ acc : Nat, acc * 10 + u % 10 = u → acc < 1844674407370955162 → Lib.parseUint10 acc (UInt8.ofNat (48 + u % 10) :: rest) = Lib.parseUint10 u rest := by
      intro acc h1 h2
      show (if 48 ≤ (UInt8.ofNat (48 + u % 10)).toNat ∧ (UInt8.ofNat (48 + u % 10)).toNat ≤ 57 then _ else _) = _
      rw [hd, if_pos (by omega), if_neg (by omega), if_neg (by omega), show acc * 10 + (48 + u % 10 - 48) = u by omega]
    by_cases h : u < 10
    · rw [ddS h]
      exact step 0 (by omega) (by omega)
    · rw [ddB h, List.append_assoc, ih (u / 10) (by omega) (by omega)]
      exact step (u / 10) (by omega) (by omega)
theorem mag_dd {u : Nat} (h : u < 18446744073709551616) : Lib.parseMag (Lib.decDigits u) = .ok u := by
  unfold Lib.parseMag
  rw [if_neg (dd_ne u)]
  have := pu_dd u h []
  rw [List.append_nil] at this
  rw [this]; rfl
theorem itN {n : Int} (h : n < 0) : Lib.itoa n = 45 :: Lib.decDigits n.natAbs := by unfold Lib.itoa; rw [if_pos h]
theorem itP {n : Int} (h : 0 ≤ n) : Lib.itoa n = Lib.decDigits n.toNat := by unfold Lib.itoa; rw [if_neg (by omega)]
theorem atoi_it {n : Int} (h : In64 n) : Lib.atoiAll (Lib.itoa n) = .ok n := by
  unfold In64 at h
  by_cases e : n < 0
  · rw [itN e]
    simp only [Lib.atoiAll]
    rw [if_pos (show (45 : UInt8).toNat = 43 ∨ (45 : UInt8).toNat = 45 from .inr rfl), mag_dd (by omega)]
    show (if ¬ (45 : UInt8).toNat = 45 ∧ 9223372036854775808 ≤ n.natAbs then _ else if (45 : UInt8).toNat = 45 ∧ 9223372036854775808 < n.natAbs then _ else _) = _
    rw [if_neg (by simp), if_neg (by omega), if_pos (by rfl)]
    congr 1; omega
  · rw [itP (by omega)]
    have hc := dd_chars n.toNat
    have hm := mag_dd (u := n.toNat) (by omega)
    have hne := dd_ne n.toNat
    generalize Lib.decDigits n.toNat = l at *
    match l, hne with
    | c :: r, _ =>
      have hc0 := hc c (by simp)
      simp only [Lib.atoiAll]
      rw [if_neg (show ¬ (c.toNat = 43 ∨ c.toNat = 45) by omega), hm]
      show (if ¬ c.toNat = 45 ∧ 9223372036854775808 ≤ n.toNat then _ else if c.toNat = 45 ∧ 9223372036854775808 < n.toNat then _ else _) = _
      rw [if_neg (by omega), if_neg (by omega), if_neg (by omega)]
      congr 1; omega
theorem it_slash {n : Int} : ∀ c, c ∈ Lib.itoa n → c ≠ 47 := by
  intro c hc
  by_cases e : n < 0
  · rw [itN e] at hc
    rcases List.mem_cons.1 hc with rfl | hc
    · decide
    · rintro rfl
      have := (dd_chars _ _ hc).1
      simp at this
  · rw [itP (by omega)] at hc
    rintro rfl
    have := (dd_chars _ _ hc).1
    simp at this
theorem cutS {c : UInt8} {r : By} : ∀ {w : By}, (∀ x, x ∈ w → x ≠ c) → cutE c (w ++ c :: r) = (w, r, true)
  | [], _ => by
    show (if c = c then _ else _) = _
    rw [if_pos rfl]
  | b :: w, h => by
    show (if b = c then _ else _) = _
    rw [if_neg (h b (by simp))]
    have ih : cutE c (w.append (c :: r)) = (w, r, true) := cutS fun x hx => h x (by simp [hx])
    rw [ih]
theorem cutN {c : UInt8} : ∀ {w : By}, (∀ x, x ∈ w → x ≠ c) → cutE c w = (w, [], false)
  | [], _ => rfl
  | b :: w, h => by
    show (if b = c then _ else _) = _
    rw [if_neg (h b (by simp)), cutN fun x hx => h x (by simp [hx])]
theorem cutJ (c : UInt8) : ∀ l : By, (cutE c l).2.2 = true → l = (cutE c l).1 ++ c :: (cutE c l).2.1
  | [], h => by simp [cutE] at h
  | b :: r, h => by
    unfold cutE at h ⊢
    by_cases e : b = c
    · rw [if_pos e, e]; rfl
    · rw [if_neg e] at h ⊢
      have := cutJ c r h
      simp only [List.cons_append]
      rw [← this]
theorem cutL (c : UInt8) : ∀ l : By, (cutE c l).1.length ≤ l.length ∧ (cutE c l).2.1.length ≤ l.length
  | [] => ⟨Nat.le_refl _, Nat.le_refl _⟩
  | b :: r => by
    obtain ⟨h1, h2⟩ := cutL c r
    unfold cutE
    split
    · exact ⟨Nat.zero_le _, by simp⟩
    · exact ⟨by simp; omega, by simp; omega⟩
end Go.Proofs.YtfhifkcbdpgomaaDoor
namespace Go.Proofs.YtfhifkcbdpgomaaDoor
set_option linter.unusedSimpArgs false
set_option linter.unusedVariables false
open Go.RowKit
set_option maxRecDepth 20000

theorem strB_app (a b : By) : strB a ++ strB b = strB (a ++ b) := by
  apply ByteArray.ext
  simp [strB]
def txtQ (r : Rt) : By := if vldR r = true then (if 1 < r.d then Lib.itoa r.n ++ 47 :: Lib.itoa r.d else Lib.itoa r.n) else []
theorem itoa_le {n : Int} (h : In64 n) : (Lib.itoa n).length ≤ 21 := Lib.itoa_length_le n h.1 h.2
theorem txtQ_len {r : Rt} (h : RtOk r) : (txtQ r).length ≤ 50 := by
  have h1 := itoa_le h.1
  have h2 := itoa_le h.2
  unfold txtQ
  split
  · split
    · rw [List.length_append, List.length_cons]; omega
    · omega
  · simp
theorem ev_textQ (r : Rt) (hr : RtOk r) : Ev Tryd.prog 5 [ratV r] (.sc (.string (strB (txtQ r)))) := by
  have hv := ev_valid r hr
  have h1 := ev_itoaA r.n hr.1
  have h2 := ev_itoaA r.d hr.2
  unfold ratV at *
  refine ev_fn Tryd.func5 comp5 (show 1 ≤ Tryd.f5.ntmps by decide) ?_; unfold cf5 rf5; simp only [↓EVP0, EVQ0, EVQ1, EVQ2, EVQ3, EVQ4, EVA, EVK, EVFR, ↓reduceIte, Nat.reduceEqDiff, Nat.reduceAdd, Nat.reduceSub, Nat.reduceMul, Nat.reduceLT, Nat.reduceLeDiff, reduceCtorEq, Int.reduceToNat, Int.reduceLT, Int.reduceLE, Int.reduceAdd, Int.reduceSub, Int.reduceMul, Int.reduceNeg, Int.reduceEq, Nat.reduceMod, forall_eq_or_imp, forall_eq, forall_const, cond_true, cond_false, decide_true, decide_false, true_imp_iff, implies_true, Int.cast_ofNat_Int, forall_eq']
  refine callK_ro (hv) ?_ ?_
  · simp only [↓EVP0, EVQ0, EVQ1, EVQ2, EVQ3, EVQ4, EVA, EVK, EVFR, ↓reduceIte, Nat.reduceEqDiff, Nat.reduceAdd, Nat.reduceSub, Nat.reduceMul, Nat.reduceLT, Nat.reduceLeDiff, reduceCtorEq, Int.reduceToNat, Int.reduceLT, Int.reduceLE, Int.reduceAdd, Int.reduceSub, Int.reduceMul, Int.reduceNeg, Int.reduceEq, Nat.reduceMod, forall_eq_or_imp, forall_eq, forall_const, cond_true, cond_false, decide_true, decide_false, true_imp_iff, implies_true, Int.cast_ofNat_Int, forall_eq']
  simp only [↓EVP0, EVQ0, EVQ1, EVQ2, EVQ3, EVQ4, EVA, EVK, EVFR, ↓reduceIte, Nat.reduceEqDiff, Nat.reduceAdd, Nat.reduceSub, Nat.reduceMul, Nat.reduceLT, Nat.reduceLeDiff, reduceCtorEq, Int.reduceToNat, Int.reduceLT, Int.reduceLE, Int.reduceAdd, Int.reduceSub, Int.reduceMul, Int.reduceNeg, Int.reduceEq, Nat.reduceMod, forall_eq_or_imp, forall_eq, forall_const, cond_true, cond_false, decide_true, decide_false, true_imp_iff, implies_true, Int.cast_ofNat_Int, forall_eq']
  unfold txtQ
  refine ⟨fun h => ?_, fun h => ?_⟩
  · rw [if_neg (by simpa using h)]; rfl
  rw [if_pos (by simpa using h)]
  refine callK_ro (h1) ?_ ?_
  · simp only [↓EVP0, EVQ0, EVQ1, EVQ2, EVQ3, EVQ4, EVA, EVK, EVFR, ↓reduceIte, Nat.reduceEqDiff, Nat.reduceAdd, Nat.reduceSub, Nat.reduceMul, Nat.reduceLT, Nat.reduceLeDiff, reduceCtorEq, Int.reduceToNat, Int.reduceLT, Int.reduceLE, Int.reduceAdd, Int.reduceSub, Int.reduceMul, Int.reduceNeg, Int.reduceEq, Nat.reduceMod, forall_eq_or_imp, forall_eq, forall_const, cond_true, cond_false, decide_true, decide_false, true_imp_iff, implies_true, Int.cast_ofNat_Int, forall_eq']
  simp only [↓EVP0, EVQ0, EVQ1, EVQ2, EVQ3, EVQ4, EVA, EVK, EVFR, ↓reduceIte, Nat.reduceEqDiff, Nat.reduceAdd, Nat.reduceSub, Nat.reduceMul, Nat.reduceLT, Nat.reduceLeDiff, reduceCtorEq, Int.reduceToNat, Int.reduceLT, Int.reduceLE, Int.reduceAdd, Int.reduceSub, Int.reduceMul, Int.reduceNeg, Int.reduceEq, Nat.reduceMod, forall_eq_or_imp, forall_eq, forall_const, cond_true, cond_false, decide_true, decide_false, true_imp_iff, implies_true, Int.cast_ofNat_Int, forall_eq']
  refine ⟨fun h => ?_, fun h => ?_⟩
  · refine callK_ro (h2) ?_ ?_
    · simp only [↓EVP0, EVQ0, EVQ1, EVQ2, EVQ3, EVQ4, EVA, EVK, EVFR, ↓reduceIte, Nat.reduceEqDiff, Nat.reduceAdd, Nat.reduceSub, Nat.reduceMul, Nat.reduceLT, Nat.reduceLeDiff, reduceCtorEq, Int.reduceToNat, Int.reduceLT, Int.reduceLE, Int.reduceAdd, Int.reduceSub, Int.reduceMul, Int.reduceNeg, Int.reduceEq, Nat.reduceMod, forall_eq_or_imp, forall_eq, forall_const, cond_true, cond_false, decide_true, decide_false, true_imp_iff, implies_true, Int.cast_ofNat_Int, forall_eq']
    simp only [↓EVP0, EVQ0, EVQ1, EVQ2, EVQ3, EVQ4, EVA, EVK, EVFR, ↓reduceIte, Nat.reduceEqDiff, Nat.reduceAdd, Nat.reduceSub, Nat.reduceMul, Nat.reduceLT, Nat.reduceLeDiff, reduceCtorEq, Int.reduceToNat, Int.reduceLT, Int.reduceLE, Int.reduceAdd, Int.reduceSub, Int.reduceMul, Int.reduceNeg, Int.reduceEq, Nat.reduceMod, forall_eq_or_imp, forall_eq, forall_const, cond_true, cond_false, decide_true, decide_false, true_imp_iff, implies_true, Int.cast_ofNat_Int, forall_eq']
    have k1 := itoa_le hr.1
    have k2 := itoa_le hr.2
    have c1 : (⟨#[47]⟩ : ByteArray) = strB [47] := rfl
    have c2 : (⟨(Lib.itoa r.n).toArray⟩ : ByteArray) = strB (Lib.itoa r.n) := rfl
    have c3 : (⟨(Lib.itoa r.d).toArray⟩ : ByteArray) = strB (Lib.itoa r.d) := rfl
    rw [c1, c2, c3, if_pos (by have := of_decide_eq_true h; omega)]
    simp only [strB_app, strB_size, List.length_append, List.length_singleton]
    exact ⟨by omega, by omega, rfl⟩
  · rw [if_neg (by have := of_decide_eq_false h; omega)]; rfl
theorem atoi_bnd (l : By) : In64 (atoiN l) := by
  unfold atoiN In64
  cases h : Lib.atoiAll l with
  | ok v => have := Lib.atoiAll_bounds h; omega
  | range => have := Lib.atoiSat_bounds l; omega
  | _ => simp
def finQ (s : By) (r : Rt) : Rt × Int := if vldR r = true ∧ txtQ r = s then (r, 0) else (⟨0, 0⟩, 3)
def prsQ (s : By) : Rt × Int := if atoiB (cutE 47 s).1 = true then (if (cutE 47 s).2.2 = true then (if atoiB (cutE 47 s).2.1 = true then finQ s ⟨atoiN (cutE 47 s).1, atoiN (cutE 47 s).2.1⟩ else (⟨0, 0⟩, 3)) else finQ s ⟨atoiN (cutE 47 s).1, 1⟩) else (⟨0, 0⟩, 3)
theorem atoi_of {n : Int} (h : In64 n) : atoiB (Lib.itoa n) = true ∧ atoiN (Lib.itoa n) = n := by
  have := atoi_it h
  unfold atoiB atoiN
  rw [this]; exact ⟨rfl, rfl⟩
theorem prs_txt {r : Rt} (hr : RtOk r) (hv : vldR r = true) (hd : 1 ≤ r.d) : prsQ (txtQ r) = (r, 0) := by
  obtain ⟨a1, a2⟩ := atoi_of hr.1
  obtain ⟨b1, b2⟩ := atoi_of hr.2
  have hf : finQ (txtQ r) r = (r, 0) := by unfold finQ; rw [if_pos ⟨hv, rfl⟩]
  by_cases e : 1 < r.d
  · have ht : txtQ r = Lib.itoa r.n ++ 47 :: Lib.itoa r.d := by unfold txtQ; rw [if_pos hv, if_pos e]
    have hc : cutE 47 (txtQ r) = (Lib.itoa r.n, Lib.itoa r.d, true) := by rw [ht]; exact cutS it_slash
    unfold prsQ
    rw [hc]
    simp only
    rw [a1, b1, a2, b2]
    simp only [if_true]
    exact hf
  · have ht : txtQ r = Lib.itoa r.n := by unfold txtQ; rw [if_pos hv, if_neg e]
    have hc : cutE 47 (txtQ r) = (Lib.itoa r.n, [], false) := by rw [ht]; exact cutN it_slash
    have h1 : r = ⟨r.n, 1⟩ := by
      obtain ⟨n, d⟩ := r
      simp only at hd e ⊢
      have : d = 1 := by omega
      rw [this]
    unfold prsQ
    rw [hc]
    simp only
    rw [a1, a2]
    simp only [if_true, Bool.false_eq_true, if_false]
    rw [← h1]
    exact hf
theorem fin_cases (s : By) (r : Rt) : (finQ s r = (r, 0) ∧ vldR r = true ∧ txtQ r = s) ∨ finQ s r = (⟨0, 0⟩, 3) := by
  unfold finQ
  by_cases h : vldR r = true ∧ txtQ r = s
  · rw [if_pos h]; exact .inl ⟨rfl, h⟩
  · rw [if_neg h]; exact .inr rfl
theorem prs_cases (s : By) : (∃ r, prsQ s = (r, 0) ∧ vldR r = true ∧ txtQ r = s ∧ 1 ≤ r.d) ∨ prsQ s = (⟨0, 0⟩, 3) := by
  unfold prsQ
  by_cases h1 : atoiB (cutE 47 s).1 = true
  · rw [if_pos h1]
    by_cases h2 : (cutE 47 s).2.2 = true
    · rw [if_pos h2]
      by_cases h3 : atoiB (cutE 47 s).2.1 = true
      · rw [if_pos h3]
        rcases fin_cases s ⟨atoiN (cutE 47 s).1, atoiN (cutE 47 s).2.1⟩ with ⟨g1, g2, g3⟩ | g
        · refine .inl ⟨_, g1, g2, g3, ?_⟩
          by_cases e : 1 < (⟨atoiN (cutE 47 s).1, atoiN (cutE 47 s).2.1⟩ : Rt).d
          · omega
          · exfalso
            have hj := cutJ 47 s h2
            unfold txtQ at g3
            rw [if_pos g2, if_neg e] at g3
            have hm : (47 : UInt8) ∈ s := by rw [hj]; simp
            rw [← g3] at hm
            exact it_slash 47 hm rfl
        · exact .inr g
      · rw [if_neg h3]; exact .inr rfl
    · rw [if_neg h2]
      rcases fin_cases s ⟨atoiN (cutE 47 s).1, 1⟩ with ⟨g1, g2, g3⟩ | g
      · exact .inl ⟨_, g1, g2, g3, Int.le_refl _⟩
      · exact .inr g
  · rw [if_neg h1]; exact .inr rfl
theorem ev_parseQ (s : By) (hs : s.length ≤ 100000) : Ev Tryd.prog 7 [.sc (.string (strB s))] (.tup [ratV (prsQ s).1, .sc (.int .i64 (prsQ s).2)]) := by
  have h1 := ev_cut s 47 (by omega)
  have h2 := fun l (hl : l.length ≤ 100000) => ev_atoi (strB l) (by rw [strB_size]; omega)
  have h3 := fun r hr => ev_valid r hr
  have h4 := fun r hr => ev_textQ r hr
  unfold ratV at *
  refine ev_fn Tryd.func7 comp7 (show 1 ≤ Tryd.f7.ntmps by decide) ?_; unfold cf7 rf7; simp only [↓EVP0, EVQ0, EVQ1, EVQ2, EVQ3, EVQ4, EVA, EVK, EVFR, ↓reduceIte, Nat.reduceEqDiff, Nat.reduceAdd, Nat.reduceSub, Nat.reduceMul, Nat.reduceLT, Nat.reduceLeDiff, reduceCtorEq, Int.reduceToNat, Int.reduceLT, Int.reduceLE, Int.reduceAdd, Int.reduceSub, Int.reduceMul, Int.reduceNeg, Int.reduceEq, Nat.reduceMod, forall_eq_or_imp, forall_eq, forall_const, cond_true, cond_false, decide_true, decide_false, true_imp_iff, implies_true, Int.cast_ofNat_Int, forall_eq']
  refine callK_ro (h1) ?_ ?_
  · simp only [↓EVP0, EVQ0, EVQ1, EVQ2, EVQ3, EVQ4, EVA, EVK, EVFR, ↓reduceIte, Nat.reduceEqDiff, Nat.reduceAdd, Nat.reduceSub, Nat.reduceMul, Nat.reduceLT, Nat.reduceLeDiff, reduceCtorEq, Int.reduceToNat, Int.reduceLT, Int.reduceLE, Int.reduceAdd, Int.reduceSub, Int.reduceMul, Int.reduceNeg, Int.reduceEq, Nat.reduceMod, forall_eq_or_imp, forall_eq, forall_const, cond_true, cond_false, decide_true, decide_false, true_imp_iff, implies_true, Int.cast_ofNat_Int, forall_eq']
  simp only [↓EVP0, EVQ0, EVQ1, EVQ2, EVQ3, EVQ4, EVA, EVK, EVFR, ↓reduceIte, Nat.reduceEqDiff, Nat.reduceAdd, Nat.reduceSub, Nat.reduceMul, Nat.reduceLT, Nat.reduceLeDiff, reduceCtorEq, Int.reduceToNat, Int.reduceLT, Int.reduceLE, Int.reduceAdd, Int.reduceSub, Int.reduceMul, Int.reduceNeg, Int.reduceEq, Nat.reduceMod, forall_eq_or_imp, forall_eq, forall_const, cond_true, cond_false, decide_true, decide_false, true_imp_iff, implies_true, Int.cast_ofNat_Int, forall_eq']
  obtain ⟨l1, l2⟩ := cutL 47 s
  have hE : prsQ s = if atoiB (cutE 47 s).1 = true then (if (cutE 47 s).2.2 = true then (if atoiB (cutE 47 s).2.1 = true then finQ s ⟨atoiN (cutE 47 s).1, atoiN (cutE 47 s).2.1⟩ else (⟨0, 0⟩, 3)) else finQ s ⟨atoiN (cutE 47 s).1, 1⟩) else (⟨0, 0⟩, 3) := rfl
  generalize cutE 47 s = c at *
  obtain ⟨a, b, sl⟩ := c
  simp only at l1 l2 hE ⊢
  have ha := h2 a (by omega)
  have hb := h2 b (by omega)
  rw [strB_data] at ha hb
  have na := atoi_bnd a
  have nb := atoi_bnd b
  have hfin : ∀ r : Rt, finQ s r = if vldR r = true ∧ txtQ r = s then (r, 0) else (⟨0, 0⟩, 3) := fun _ => rfl
  have hdec : ∀ r : Rt, decide (strB (txtQ r) = strB s) = decide (txtQ r = s) := fun r => decide_eq_decide.2 ⟨fun h => strB_inj h, fun h => by rw [h]⟩
  refine callK_ro (ha) ?_ ?_
  · simp only [↓EVP0, EVQ0, EVQ1, EVQ2, EVQ3, EVQ4, EVA, EVK, EVFR, ↓reduceIte, Nat.reduceEqDiff, Nat.reduceAdd, Nat.reduceSub, Nat.reduceMul, Nat.reduceLT, Nat.reduceLeDiff, reduceCtorEq, Int.reduceToNat, Int.reduceLT, Int.reduceLE, Int.reduceAdd, Int.reduceSub, Int.reduceMul, Int.reduceNeg, Int.reduceEq, Nat.reduceMod, forall_eq_or_imp, forall_eq, forall_const, cond_true, cond_false, decide_true, decide_false, true_imp_iff, implies_true, Int.cast_ofNat_Int, forall_eq']
  simp only [↓EVP0, EVQ0, EVQ1, EVQ2, EVQ3, EVQ4, EVA, EVK, EVFR, ↓reduceIte, Nat.reduceEqDiff, Nat.reduceAdd, Nat.reduceSub, Nat.reduceMul, Nat.reduceLT, Nat.reduceLeDiff, reduceCtorEq, Int.reduceToNat, Int.reduceLT, Int.reduceLE, Int.reduceAdd, Int.reduceSub, Int.reduceMul, Int.reduceNeg, Int.reduceEq, Nat.reduceMod, forall_eq_or_imp, forall_eq, forall_const, cond_true, cond_false, decide_true, decide_false, true_imp_iff, implies_true, Int.cast_ofNat_Int, forall_eq']
  cases e1 : atoiB a
  · rw [e1] at hE
    rw [hE]
    exact ⟨fun _ => ⟨⟨rfl, rfl⟩, rfl⟩, fun h => by simp at h⟩
  rw [e1] at hE
  simp only [if_true] at hE
  refine ⟨fun h => by simp at h, fun _ => ?_⟩
  have leaf : ∀ r : Rt, RtOk r → prsQ s = finQ s r → (Br (bif !vldR r then true else !decide (strB (txtQ r) = strB s)) ((0 = (prsQ s).1.n ∧ 0 = (prsQ s).1.d) ∧ 3 = (prsQ s).2) ((r.n = (prsQ s).1.n ∧ r.d = (prsQ s).1.d) ∧ 0 = (prsQ s).2)) := by
    intro r hr hp
    rw [hp, hfin, hdec]
    cases hv : vldR r
    · rw [if_neg (by rintro ⟨h, _⟩; simp at h)]
      exact ⟨fun _ => ⟨⟨rfl, rfl⟩, rfl⟩, fun h => by simp at h⟩
    · by_cases ht : txtQ r = s
      · rw [if_pos ⟨rfl, ht⟩, decide_eq_true ht]
        exact ⟨fun h => by simp at h, fun _ => ⟨⟨rfl, rfl⟩, rfl⟩⟩
      · rw [if_neg (fun h => ht h.2), decide_eq_false ht]
        exact ⟨fun _ => ⟨⟨rfl, rfl⟩, rfl⟩, fun h => by simp at h⟩
  cases sl
  · refine ⟨fun h => by simp at h, fun _ => ?_⟩
    simp only [Bool.false_eq_true, if_false] at hE
    have hr : RtOk ⟨atoiN a, 1⟩ := ⟨na, by show In64 1; unfold In64; omega⟩
    have h31 := h3 ⟨atoiN a, 1⟩ hr
    have h41 := h4 ⟨atoiN a, 1⟩ hr
    have hlf := leaf ⟨atoiN a, 1⟩ hr hE
    simp only at h31 h41 hlf
    refine callK_ro (h31) ?_ ?_
    · simp only [↓EVP0, EVQ0, EVQ1, EVQ2, EVQ3, EVQ4, EVA, EVK, EVFR, ↓reduceIte, Nat.reduceEqDiff, Nat.reduceAdd, Nat.reduceSub, Nat.reduceMul, Nat.reduceLT, Nat.reduceLeDiff, reduceCtorEq, Int.reduceToNat, Int.reduceLT, Int.reduceLE, Int.reduceAdd, Int.reduceSub, Int.reduceMul, Int.reduceNeg, Int.reduceEq, Nat.reduceMod, forall_eq_or_imp, forall_eq, forall_const, cond_true, cond_false, decide_true, decide_false, true_imp_iff, implies_true, Int.cast_ofNat_Int, forall_eq']
    simp only [↓EVP0, EVQ0, EVQ1, EVQ2, EVQ3, EVQ4, EVA, EVK, EVFR, ↓reduceIte, Nat.reduceEqDiff, Nat.reduceAdd, Nat.reduceSub, Nat.reduceMul, Nat.reduceLT, Nat.reduceLeDiff, reduceCtorEq, Int.reduceToNat, Int.reduceLT, Int.reduceLE, Int.reduceAdd, Int.reduceSub, Int.reduceMul, Int.reduceNeg, Int.reduceEq, Nat.reduceMod, forall_eq_or_imp, forall_eq, forall_const, cond_true, cond_false, decide_true, decide_false, true_imp_iff, implies_true, Int.cast_ofNat_Int, forall_eq']
    (refine lops_ge_imp ?_; simp only [↓EVP0, EVQ0, EVQ1, EVQ2, EVQ3, EVQ4, EVA, EVK, EVFR, ↓reduceIte, Nat.reduceEqDiff, Nat.reduceAdd, Nat.reduceSub, Nat.reduceMul, Nat.reduceLT, Nat.reduceLeDiff, reduceCtorEq, Int.reduceToNat, Int.reduceLT, Int.reduceLE, Int.reduceAdd, Int.reduceSub, Int.reduceMul, Int.reduceNeg, Int.reduceEq, Nat.reduceMod, forall_eq_or_imp, forall_eq, forall_const, cond_true, cond_false, decide_true, decide_false, true_imp_iff, implies_true, Int.cast_ofNat_Int, forall_eq'])
    refine gCallK_ro _ (fun _ => h41) (fun _ => ?_) ?_
    · simp only [↓EVP0, EVQ0, EVQ1, EVQ2, EVQ3, EVQ4, EVA, EVK, EVFR, ↓reduceIte, Nat.reduceEqDiff, Nat.reduceAdd, Nat.reduceSub, Nat.reduceMul, Nat.reduceLT, Nat.reduceLeDiff, reduceCtorEq, Int.reduceToNat, Int.reduceLT, Int.reduceLE, Int.reduceAdd, Int.reduceSub, Int.reduceMul, Int.reduceNeg, Int.reduceEq, Nat.reduceMod, forall_eq_or_imp, forall_eq, forall_const, cond_true, cond_false, decide_true, decide_false, true_imp_iff, implies_true, Int.cast_ofNat_Int, forall_eq']
    simp only [↓EVP0, EVQ0, EVQ1, EVQ2, EVQ3, EVQ4, EVA, EVK, EVFR, ↓reduceIte, Nat.reduceEqDiff, Nat.reduceAdd, Nat.reduceSub, Nat.reduceMul, Nat.reduceLT, Nat.reduceLeDiff, reduceCtorEq, Int.reduceToNat, Int.reduceLT, Int.reduceLE, Int.reduceAdd, Int.reduceSub, Int.reduceMul, Int.reduceNeg, Int.reduceEq, Nat.reduceMod, forall_eq_or_imp, forall_eq, forall_const, cond_true, cond_false, decide_true, decide_false, true_imp_iff, implies_true, Int.cast_ofNat_Int, forall_eq']
    exact hlf
  · refine ⟨fun _ => ?_, fun h => by simp at h⟩
    simp only [if_true] at hE
    refine callK_ro (hb) ?_ ?_
    · simp only [↓EVP0, EVQ0, EVQ1, EVQ2, EVQ3, EVQ4, EVA, EVK, EVFR, ↓reduceIte, Nat.reduceEqDiff, Nat.reduceAdd, Nat.reduceSub, Nat.reduceMul, Nat.reduceLT, Nat.reduceLeDiff, reduceCtorEq, Int.reduceToNat, Int.reduceLT, Int.reduceLE, Int.reduceAdd, Int.reduceSub, Int.reduceMul, Int.reduceNeg, Int.reduceEq, Nat.reduceMod, forall_eq_or_imp, forall_eq, forall_const, cond_true, cond_false, decide_true, decide_false, true_imp_iff, implies_true, Int.cast_ofNat_Int, forall_eq']
    simp only [↓EVP0, EVQ0, EVQ1, EVQ2, EVQ3, EVQ4, EVA, EVK, EVFR, ↓reduceIte, Nat.reduceEqDiff, Nat.reduceAdd, Nat.reduceSub, Nat.reduceMul, Nat.reduceLT, Nat.reduceLeDiff, reduceCtorEq, Int.reduceToNat, Int.reduceLT, Int.reduceLE, Int.reduceAdd, Int.reduceSub, Int.reduceMul, Int.reduceNeg, Int.reduceEq, Nat.reduceMod, forall_eq_or_imp, forall_eq, forall_const, cond_true, cond_false, decide_true, decide_false, true_imp_iff, implies_true, Int.cast_ofNat_Int, forall_eq']
    cases e2 : atoiB b
    · rw [e2] at hE
      simp only [Bool.false_eq_true, if_false] at hE
      rw [hE]
      exact ⟨fun _ => ⟨⟨rfl, rfl⟩, rfl⟩, fun h => by simp at h⟩
    rw [e2] at hE
    simp only [if_true] at hE
    refine ⟨fun h => by simp at h, fun _ => ?_⟩
    have hr : RtOk ⟨atoiN a, atoiN b⟩ := ⟨na, nb⟩
    have h31 := h3 ⟨atoiN a, atoiN b⟩ hr
    have h41 := h4 ⟨atoiN a, atoiN b⟩ hr
    have hlf := leaf ⟨atoiN a, atoiN b⟩ hr hE
    simp only at h31 h41 hlf
    refine callK_ro (h31) ?_ ?_
    · simp only [↓EVP0, EVQ0, EVQ1, EVQ2, EVQ3, EVQ4, EVA, EVK, EVFR, ↓reduceIte, Nat.reduceEqDiff, Nat.reduceAdd, Nat.reduceSub, Nat.reduceMul, Nat.reduceLT, Nat.reduceLeDiff, reduceCtorEq, Int.reduceToNat, Int.reduceLT, Int.reduceLE, Int.reduceAdd, Int.reduceSub, Int.reduceMul, Int.reduceNeg, Int.reduceEq, Nat.reduceMod, forall_eq_or_imp, forall_eq, forall_const, cond_true, cond_false, decide_true, decide_false, true_imp_iff, implies_true, Int.cast_ofNat_Int, forall_eq']
    simp only [↓EVP0, EVQ0, EVQ1, EVQ2, EVQ3, EVQ4, EVA, EVK, EVFR, ↓reduceIte, Nat.reduceEqDiff, Nat.reduceAdd, Nat.reduceSub, Nat.reduceMul, Nat.reduceLT, Nat.reduceLeDiff, reduceCtorEq, Int.reduceToNat, Int.reduceLT, Int.reduceLE, Int.reduceAdd, Int.reduceSub, Int.reduceMul, Int.reduceNeg, Int.reduceEq, Nat.reduceMod, forall_eq_or_imp, forall_eq, forall_const, cond_true, cond_false, decide_true, decide_false, true_imp_iff, implies_true, Int.cast_ofNat_Int, forall_eq']
    (refine lops_ge_imp ?_; simp only [↓EVP0, EVQ0, EVQ1, EVQ2, EVQ3, EVQ4, EVA, EVK, EVFR, ↓reduceIte, Nat.reduceEqDiff, Nat.reduceAdd, Nat.reduceSub, Nat.reduceMul, Nat.reduceLT, Nat.reduceLeDiff, reduceCtorEq, Int.reduceToNat, Int.reduceLT, Int.reduceLE, Int.reduceAdd, Int.reduceSub, Int.reduceMul, Int.reduceNeg, Int.reduceEq, Nat.reduceMod, forall_eq_or_imp, forall_eq, forall_const, cond_true, cond_false, decide_true, decide_false, true_imp_iff, implies_true, Int.cast_ofNat_Int, forall_eq'])
    refine gCallK_ro _ (fun _ => h41) (fun _ => ?_) ?_
    · simp only [↓EVP0, EVQ0, EVQ1, EVQ2, EVQ3, EVQ4, EVA, EVK, EVFR, ↓reduceIte, Nat.reduceEqDiff, Nat.reduceAdd, Nat.reduceSub, Nat.reduceMul, Nat.reduceLT, Nat.reduceLeDiff, reduceCtorEq, Int.reduceToNat, Int.reduceLT, Int.reduceLE, Int.reduceAdd, Int.reduceSub, Int.reduceMul, Int.reduceNeg, Int.reduceEq, Nat.reduceMod, forall_eq_or_imp, forall_eq, forall_const, cond_true, cond_false, decide_true, decide_false, true_imp_iff, implies_true, Int.cast_ofNat_Int, forall_eq']
    simp only [↓EVP0, EVQ0, EVQ1, EVQ2, EVQ3, EVQ4, EVA, EVK, EVFR, ↓reduceIte, Nat.reduceEqDiff, Nat.reduceAdd, Nat.reduceSub, Nat.reduceMul, Nat.reduceLT, Nat.reduceLeDiff, reduceCtorEq, Int.reduceToNat, Int.reduceLT, Int.reduceLE, Int.reduceAdd, Int.reduceSub, Int.reduceMul, Int.reduceNeg, Int.reduceEq, Nat.reduceMod, forall_eq_or_imp, forall_eq, forall_const, cond_true, cond_false, decide_true, decide_false, true_imp_iff, implies_true, Int.cast_ofNat_Int, forall_eq']
    exact hlf
end Go.Proofs.YtfhifkcbdpgomaaDoor
namespace Go.Proofs.YtfhifkcbdpgomaaDoor
set_option linter.unusedSimpArgs false
set_option linter.unusedVariables false
open Go.RowKit
set_option maxRecDepth 20000

def rlQ : By → Nat → Int → Int → Option (Nat × Int × Int)
  | [], p, a, b => some (p, a, b)
  | c :: r, p, a, b => if c = 47 ∧ p = 0 then rlQ r 1 a b else if c.toNat < 48 ∨ 57 < c.toNat ∨ 144115188075855872 < (if p = 0 then a else b) then none else
      if p = 0 then rlQ r p (10 * a + ((c.toNat : Int) - 48)) b else rlQ r p a (10 * b + ((c.toNat : Int) - 48))
def rpQ (s : By) : Option Rt := match rlQ (if s.head? = some 45 then s.drop 1 else s) 0 0 0 with
  | none => none
  | some (p, a, b) => if (if p = 0 then (1 : Int) else b) ≠ 0 ∧ vldR ⟨if s.head? = some 45 then -a else a, if p = 0 then 1 else b⟩ = true ∧ txtQ ⟨if s.head? = some 45 then -a else a, if p = 0 then 1 else b⟩ = s then some ⟨if s.head? = some 45 then -a else a, if p = 0 then 1 else b⟩ else none
theorem dig_ne {m : Nat} (h : m < 10) : UInt8.ofNat (48 + m) ≠ 47 := by
  intro e
  have := congrArg UInt8.toNat e
  rw [dig_nat h] at this
  simp at this
  omega
theorem rl_dd0 : ∀ u : Nat, u ≤ 1152921504606846976 → ∀ (rest : By) (b : Int), rlQ (Lib.decDigits u ++ rest) 0 0 b = rlQ rest 0 u b := by
  intro u
  induction u using Nat.strongRecOn with
  | ind u ih =>
    intro hu rest b
    have hm := Nat.mod_lt u (show 0 < 10 by omega)
    have hd := dig_nat hm
    have step : ∀ a : Nat, a * 10 + u % 10 = u → a ≤ 144115188075855872 → rlQ (UInt8.ofNat (48 + u % 10) :: rest) 0 a b = rlQ rest 0 u b := by
      intro a h1 h2
      show (if UInt8.ofNat (48 + u % 10) = 47 ∧ 0 = 0 then _ else if (UInt8.ofNat (48 + u % 10)).toNat < 48 ∨ 57 < (UInt8.ofNat (48 + u % 10)).toNat ∨ 144115188075855872 < (if 0 = 0 then (a : Int) else b) then _ else _) = _
      rw [if_neg (fun h => dig_ne hm h.1), hd, if_neg (by simp only [if_true]; omega), if_pos rfl]
      congr 1
      omega
    by_cases h : u < 10
    · rw [ddS h]
      exact step 0 (by omega) (by omega)
    · rw [ddB h, List.append_assoc, ih (u / 10) (by omega) (by omega)]
      exact step (u / 10) (by omega) (by omega)
theorem rl_dd1 : ∀ u : Nat, u ≤ 1152921504606846976 → ∀ (rest : By) (a : Int), rlQ (Lib.decDigits u ++ rest) 1 a 0 = rlQ rest 1 a u := by
  intro u
  induction u using Nat.strongRecOn with
  | ind u ih =>
    intro hu rest a
    have hm := Nat.mod_lt u (show 0 < 10 by omega)
    have hd := dig_nat hm
    have step : ∀ b : Nat, b * 10 + u % 10 = u → b ≤ 144115188075855872 → rlQ (UInt8.ofNat (48 + u % 10) :: rest) 1 a b = rlQ rest 1 a u := by
      intro b h1 h2
      show (if UInt8.ofNat (48 + u % 10) = 47 ∧ 1 = 0 then _ else if (UInt8.ofNat (48 + u % 10)).toNat < 48 ∨ 57 < (UInt8.ofNat (48 + u % 10)).toNat ∨ 144115188075855872 < (if 1 = 0 then a else (b : Int)) then _ else _) = _
      rw [if_neg (fun h => dig_ne hm h.1), hd, if_neg (by simp; omega), if_neg (by omega)]
      congr 1
      omega
    by_cases h : u < 10
    · rw [ddS h]
      exact step 0 (by omega) (by omega)
    · rw [ddB h, List.append_assoc, ih (u / 10) (by omega) (by omega)]
      exact step (u / 10) (by omega) (by omega)
theorem rp_txt {r : Rt} (hv : vldR r = true) (hd : 1 ≤ r.d) : rpQ (txtQ r) = some r := by
  obtain ⟨b2, b3, _, b1⟩ := vld_bnd hv
  have fin : ∀ (s : By) (p : Nat) (a b : Int), s = txtQ r → rlQ (if s.head? = some 45 then s.drop 1 else s) 0 0 0 = some (p, a, b) → (⟨if s.head? = some 45 then -a else a, if p = 0 then 1 else b⟩ : Rt) = r → rpQ s = some r := by
    intro s p a b hs h1 h2
    unfold rpQ
    rw [h1]
    simp only
    have h3 := congrArg Rt.d h2
    simp only at h3
    rw [h2, h3, if_pos ⟨by omega, hv, hs.symm⟩]
  have htail : (if 1 < r.d then Lib.itoa r.n ++ 47 :: Lib.itoa r.d else Lib.itoa r.n) = Lib.itoa r.n ++ (if 1 < r.d then 47 :: Lib.itoa r.d else []) := by
    split
    · rfl
    · rw [List.append_nil]
  have ht : txtQ r = Lib.itoa r.n ++ (if 1 < r.d then 47 :: Lib.itoa r.d else []) := by unfold txtQ; rw [if_pos hv, htail]
  have hrest : ∀ u : Nat, rlQ (if 1 < r.d then 47 :: Lib.itoa r.d else []) 0 u 0 = some (if 1 < r.d then 1 else 0, (u : Int), if 1 < r.d then r.d else 0) := by
    intro u
    by_cases e : 1 < r.d
    · rw [if_pos e, if_pos e, if_pos e]
      show (if (47 : UInt8) = 47 ∧ 0 = 0 then rlQ (Lib.itoa r.d) 1 u 0 else _) = _
      rw [if_pos ⟨rfl, rfl⟩, itP (by omega)]
      have := rl_dd1 r.d.toNat (by omega) [] u
      rw [List.append_nil] at this
      rw [this]
      show some (1, (u : Int), ((r.d.toNat : Nat) : Int)) = _
      rw [show ((r.d.toNat : Nat) : Int) = r.d by omega]
    · rw [if_neg e, if_neg e, if_neg e]; rfl
  have hden : (if (if 1 < r.d then 1 else 0) = 0 then (1 : Int) else (if 1 < r.d then r.d else 0)) = r.d := by
    by_cases e : 1 < r.d
    · simp [e]
    · simp [e]; omega
  by_cases hn : r.n < 0
  · have hs : txtQ r = 45 :: (Lib.decDigits r.n.natAbs ++ (if 1 < r.d then 47 :: Lib.itoa r.d else [])) := by rw [ht, itN hn]; rfl
    refine fin (txtQ r) (if 1 < r.d then 1 else 0) (r.n.natAbs : Nat) (if 1 < r.d then r.d else 0) rfl ?_ ?_
    · rw [hs]
      show rlQ (Lib.decDigits r.n.natAbs ++ (if 1 < r.d then 47 :: Lib.itoa r.d else [])) 0 0 0 = _
      rw [rl_dd0 _ (by omega)]
      exact hrest _
    · rw [hden, hs]
      show (⟨-((r.n.natAbs : Nat) : Int), r.d⟩ : Rt) = r
      rw [show -((r.n.natAbs : Nat) : Int) = r.n by omega]
  · have hs : txtQ r = Lib.decDigits r.n.toNat ++ (if 1 < r.d then 47 :: Lib.itoa r.d else []) := by rw [ht, itP (by omega)]
    have hh : (txtQ r).head? ≠ some 45 := by
      rw [hs]
      have hc := dd_chars r.n.toNat
      have hne := dd_ne r.n.toNat
      generalize Lib.decDigits r.n.toNat = l at *
      match l, hne with
      | c :: q, _ =>
        intro e
        simp at e
        have := (hc c (by simp)).1
        rw [e] at this
        simp at this
    refine fin (txtQ r) (if 1 < r.d then 1 else 0) (r.n.toNat : Nat) (if 1 < r.d then r.d else 0) rfl ?_ ?_
    · rw [if_neg hh, hs, rl_dd0 _ (by omega)]
      exact hrest _
    · rw [hden, if_neg hh]
      rw [show ((r.n.toNat : Nat) : Int) = r.n by omega]
theorem rp_cases (s : By) : (∃ r, rpQ s = some r ∧ vldR r = true ∧ txtQ r = s ∧ 1 ≤ r.d) ∨ rpQ s = none := by
  unfold rpQ
  cases h : rlQ (if s.head? = some 45 then s.drop 1 else s) 0 0 0 with
  | none => exact .inr rfl
  | some q =>
    obtain ⟨p, a, b⟩ := q
    simp only
    have hrd : (if p = 0 then (1 : Int) else b) = (⟨if s.head? = some 45 then -a else a, if p = 0 then 1 else b⟩ : Rt).d := rfl
    rw [hrd]
    generalize (⟨if s.head? = some 45 then -a else a, if p = 0 then 1 else b⟩ : Rt) = r
    by_cases h2 : r.d ≠ 0 ∧ vldR r = true ∧ txtQ r = s
    · rw [if_pos h2]
      refine .inl ⟨_, rfl, h2.2.1, h2.2.2, ?_⟩
      have h3 := h2.2.1
      unfold vldR at h3
      simp only [Bool.or_eq_true, Bool.and_eq_true, decide_eq_true_eq] at h3
      rcases h3 with h3 | h3
      · exact absurd h3.2 h2.1
      · exact h3.1
    · rw [if_neg h2]; exact .inr rfl
theorem rp_prs (s : By) (hs : ∀ r, txtQ r = s → vldR r = true → RtOk r) : (∃ r, rpQ s = some r ∧ prsQ s = (r, 0)) ∨ (rpQ s = none ∧ prsQ s = (⟨0, 0⟩, 3)) := by
  rcases prs_cases s with ⟨r, h1, h2, h3, h4⟩ | h
  · refine .inl ⟨r, ?_, h1⟩
    rw [← h3]; exact rp_txt h2 h4
  · rcases rp_cases s with ⟨r, h1, h2, h3, h4⟩ | h5
    · have := prs_txt (hs r h3 h2) h2 h4
      rw [h3, h] at this
      simp at this
    · exact .inr ⟨h5, h⟩
end Go.Proofs.YtfhifkcbdpgomaaDoor
namespace Go.Proofs.YtfhifkcbdpgomaaDoor
set_option linter.unusedSimpArgs false
set_option linter.unusedVariables false
open Go.RowKit
set_option maxRecDepth 20000

theorem dig_str {m : Nat} (h : m < 10) : (⟨#[48, 49, 50, 51, 52, 53, 54, 55, 56, 57]⟩ : ByteArray).extract m (m + 1) = strB [UInt8.ofNat (48 + m)] := by
  have : ∀ m, m < 10 → (⟨#[48, 49, 50, 51, 52, 53, 54, 55, 56, 57]⟩ : ByteArray).extract m (m + 1) = strB [UInt8.ofNat (48 + m)] := by decide
  exact this m h
theorem ddLen : ∀ (k n : Nat), n < 10 ^ k → 0 < k → (Lib.decDigits n).length ≤ k := by
  intro k
  induction k with
  | zero => intro n _ h; omega
  | succ k ih =>
    intro n h _
    by_cases e : n < 10
    · rw [ddS e]; simp
    · rw [ddB e, List.length_append, List.length_singleton]
      have hk : 0 < k := by
        rcases Nat.eq_zero_or_pos k with h0 | h0
        · subst h0; simp at h; omega
        · exact h0
      have := ih (n / 10) (by rw [Nat.pow_succ] at h; omega) hk
      omega
theorem ev_rdec : ∀ n : Nat, n ≤ 1152921504606846976 → Ev Tryd.prog 21 [.sc (.int .i64 (n : Int))] (.sc (.string (strB (Lib.decDigits n)))) := by
  intro n
  induction n using Nat.strongRecOn with
  | ind n ih =>
    intro hn
    have hm := Nat.mod_lt n (show 0 < 10 by omega)
    refine ev_fn Tryd.func21 comp21 (show 1 ≤ Tryd.f21.ntmps by decide) ?_; unfold cf21 rf21; simp only [↓EVP0, EVQ0, EVQ1, EVQ2, EVQ3, EVQ4, EVA, EVK, EVFR, ↓reduceIte, Nat.reduceEqDiff, Nat.reduceAdd, Nat.reduceSub, Nat.reduceMul, Nat.reduceLT, Nat.reduceLeDiff, reduceCtorEq, Int.reduceToNat, Int.reduceLT, Int.reduceLE, Int.reduceAdd, Int.reduceSub, Int.reduceMul, Int.reduceNeg, Int.reduceEq, Nat.reduceMod, forall_eq_or_imp, forall_eq, forall_const, cond_true, cond_false, decide_true, decide_false, true_imp_iff, implies_true, Int.cast_ofNat_Int, forall_eq']
    have e1 : (n : Int).tmod 10 = ((n % 10 : Nat) : Int) := rfl
    have e2 : (n : Int).tdiv 10 = ((n / 10 : Nat) : Int) := rfl
    rw [e1, e2]
    rw [show ((n % 10 : Nat) : Int).toNat = n % 10 by omega, show (((n % 10 : Nat) : Int) + 1).toNat = n % 10 + 1 by omega, dig_str hm]
    have hsz : (⟨#[48, 49, 50, 51, 52, 53, 54, 55, 56, 57]⟩ : ByteArray).size = 10 := rfl
    rw [hsz]
    refine ⟨fun hg => ?_, fun _ => ⟨by omega, by omega, by unfold In64; omega, ⟨by omega, by omega, by omega⟩, fun hg => ?_, fun hg => ⟨⟨by omega, by unfold In64; omega⟩, ?_⟩⟩⟩
    · have := of_decide_eq_true hg; omega
    · rw [ddS (by have := of_decide_eq_true hg; omega)]
    · have hn2 : ¬ n < 10 := by have := of_decide_eq_false hg; omega
      have h1 := ih (n / 10) (by omega) (by omega)
      have hl := ddLen 20 (n / 10) (by omega) (by omega)
      refine callK_ro (h1) ?_ ?_
      · simp only [↓EVP0, EVQ0, EVQ1, EVQ2, EVQ3, EVQ4, EVA, EVK, EVFR, ↓reduceIte, Nat.reduceEqDiff, Nat.reduceAdd, Nat.reduceSub, Nat.reduceMul, Nat.reduceLT, Nat.reduceLeDiff, reduceCtorEq, Int.reduceToNat, Int.reduceLT, Int.reduceLE, Int.reduceAdd, Int.reduceSub, Int.reduceMul, Int.reduceNeg, Int.reduceEq, Nat.reduceMod, forall_eq_or_imp, forall_eq, forall_const, cond_true, cond_false, decide_true, decide_false, true_imp_iff, implies_true, Int.cast_ofNat_Int, forall_eq']
      simp only [↓EVP0, EVQ0, EVQ1, EVQ2, EVQ3, EVQ4, EVA, EVK, EVFR, ↓reduceIte, Nat.reduceEqDiff, Nat.reduceAdd, Nat.reduceSub, Nat.reduceMul, Nat.reduceLT, Nat.reduceLeDiff, reduceCtorEq, Int.reduceToNat, Int.reduceLT, Int.reduceLE, Int.reduceAdd, Int.reduceSub, Int.reduceMul, Int.reduceNeg, Int.reduceEq, Nat.reduceMod, forall_eq_or_imp, forall_eq, forall_const, cond_true, cond_false, decide_true, decide_false, true_imp_iff, implies_true, Int.cast_ofNat_Int, forall_eq']
      rw [strB_app, strB_size, strB_size, ← ddB hn2]
      exact ⟨by simp only [List.length_singleton]; omega, rfl⟩
theorem ev_rdecI (n : Int) (h : -1152921504606846976 ≤ n ∧ n ≤ 1152921504606846976) : Ev Tryd.prog 21 [.sc (.int .i64 n)] (.sc (.string (strB (Lib.itoa n)))) := by
  by_cases e : n < 0
  · have h1 := ev_rdec n.natAbs (by omega)
    refine ev_fn Tryd.func21 comp21 (show 1 ≤ Tryd.f21.ntmps by decide) ?_; unfold cf21 rf21; simp only [↓EVP0, EVQ0, EVQ1, EVQ2, EVQ3, EVQ4, EVA, EVK, EVFR, ↓reduceIte, Nat.reduceEqDiff, Nat.reduceAdd, Nat.reduceSub, Nat.reduceMul, Nat.reduceLT, Nat.reduceLeDiff, reduceCtorEq, Int.reduceToNat, Int.reduceLT, Int.reduceLE, Int.reduceAdd, Int.reduceSub, Int.reduceMul, Int.reduceNeg, Int.reduceEq, Nat.reduceMod, forall_eq_or_imp, forall_eq, forall_const, cond_true, cond_false, decide_true, decide_false, true_imp_iff, implies_true, Int.cast_ofNat_Int, forall_eq']
    rw [decide_eq_true e]
    refine ⟨fun _ => ?_, fun h => by simp at h⟩
    rw [show IntKind.i64.wrap (0 - n) = ((n.natAbs : Nat) : Int) by rw [wrap64_in (by unfold In64; omega)]; omega]
    have hl := ddLen 20 n.natAbs (by omega) (by omega)
    refine callK_ro (h1) ?_ ?_
    · simp only [↓EVP0, EVQ0, EVQ1, EVQ2, EVQ3, EVQ4, EVA, EVK, EVFR, ↓reduceIte, Nat.reduceEqDiff, Nat.reduceAdd, Nat.reduceSub, Nat.reduceMul, Nat.reduceLT, Nat.reduceLeDiff, reduceCtorEq, Int.reduceToNat, Int.reduceLT, Int.reduceLE, Int.reduceAdd, Int.reduceSub, Int.reduceMul, Int.reduceNeg, Int.reduceEq, Nat.reduceMod, forall_eq_or_imp, forall_eq, forall_const, cond_true, cond_false, decide_true, decide_false, true_imp_iff, implies_true, Int.cast_ofNat_Int, forall_eq']
    simp only [↓EVP0, EVQ0, EVQ1, EVQ2, EVQ3, EVQ4, EVA, EVK, EVFR, ↓reduceIte, Nat.reduceEqDiff, Nat.reduceAdd, Nat.reduceSub, Nat.reduceMul, Nat.reduceLT, Nat.reduceLeDiff, reduceCtorEq, Int.reduceToNat, Int.reduceLT, Int.reduceLE, Int.reduceAdd, Int.reduceSub, Int.reduceMul, Int.reduceNeg, Int.reduceEq, Nat.reduceMod, forall_eq_or_imp, forall_eq, forall_const, cond_true, cond_false, decide_true, decide_false, true_imp_iff, implies_true, Int.cast_ofNat_Int, forall_eq']
    have c1 : (⟨#[45]⟩ : ByteArray) = strB [45] := rfl
    rw [c1, strB_app, strB_size, strB_size, itN e]
    exact ⟨by simp only [List.length_singleton]; omega, rfl⟩
  · have h1 := ev_rdec n.toNat (by omega)
    rw [show ((n.toNat : Nat) : Int) = n by omega, ← itP (by omega)] at h1
    exact h1
theorem ev_rtext (r : Rt) (hv : vldR r = true) : Ev Tryd.prog 8 [ratV r] (.sc (.string (strB (txtQ r)))) := by
  have hb := vld_bnd hv
  have h1 := ev_full r
  have h2 := fun n h => ev_rdecI n h
  have hr : RtOk r := ⟨by unfold In64; omega, by unfold In64; omega⟩
  have l1 := itoa_le hr.1
  have l2 := itoa_le hr.2
  unfold ratV at *
  refine ev_fn Tryd.func8 comp8 (show 1 ≤ Tryd.f8.ntmps by decide) ?_; unfold cf8 rf8; simp only [↓EVP0, EVQ0, EVQ1, EVQ2, EVQ3, EVQ4, EVA, EVK, EVFR, ↓reduceIte, Nat.reduceEqDiff, Nat.reduceAdd, Nat.reduceSub, Nat.reduceMul, Nat.reduceLT, Nat.reduceLeDiff, reduceCtorEq, Int.reduceToNat, Int.reduceLT, Int.reduceLE, Int.reduceAdd, Int.reduceSub, Int.reduceMul, Int.reduceNeg, Int.reduceEq, Nat.reduceMod, forall_eq_or_imp, forall_eq, forall_const, cond_true, cond_false, decide_true, decide_false, true_imp_iff, implies_true, Int.cast_ofNat_Int, forall_eq']
  refine callK_ro (h1) ?_ ?_
  · simp only [↓EVP0, EVQ0, EVQ1, EVQ2, EVQ3, EVQ4, EVA, EVK, EVFR, ↓reduceIte, Nat.reduceEqDiff, Nat.reduceAdd, Nat.reduceSub, Nat.reduceMul, Nat.reduceLT, Nat.reduceLeDiff, reduceCtorEq, Int.reduceToNat, Int.reduceLT, Int.reduceLE, Int.reduceAdd, Int.reduceSub, Int.reduceMul, Int.reduceNeg, Int.reduceEq, Nat.reduceMod, forall_eq_or_imp, forall_eq, forall_const, cond_true, cond_false, decide_true, decide_false, true_imp_iff, implies_true, Int.cast_ofNat_Int, forall_eq']
  simp only [↓EVP0, EVQ0, EVQ1, EVQ2, EVQ3, EVQ4, EVA, EVK, EVFR, ↓reduceIte, Nat.reduceEqDiff, Nat.reduceAdd, Nat.reduceSub, Nat.reduceMul, Nat.reduceLT, Nat.reduceLeDiff, reduceCtorEq, Int.reduceToNat, Int.reduceLT, Int.reduceLE, Int.reduceAdd, Int.reduceSub, Int.reduceMul, Int.reduceNeg, Int.reduceEq, Nat.reduceMod, forall_eq_or_imp, forall_eq, forall_const, cond_true, cond_false, decide_true, decide_false, true_imp_iff, implies_true, Int.cast_ofNat_Int, forall_eq']
  have ht : txtQ r = if (fullR r).d = 1 then Lib.itoa (fullR r).n else Lib.itoa (fullR r).n ++ 47 :: Lib.itoa (fullR r).d := by
    unfold txtQ fullR
    rw [if_pos hv]
    by_cases e : r.d = 0
    · have h0 : r.n = 0 := by
        unfold vldR at hv
        simp only [Bool.or_eq_true, Bool.and_eq_true, decide_eq_true_eq] at hv
        omega
      rw [if_pos e, if_neg (by omega), h0]; rfl
    · rw [if_neg e]
      by_cases e1 : r.d = 1
      · rw [if_neg (by omega), if_pos e1]
      · rw [if_pos (by omega), if_neg e1]
  have hf : -1152921504606846976 ≤ (fullR r).n ∧ (fullR r).n ≤ 1152921504606846976 ∧ 0 < (fullR r).d ∧ (fullR r).d ≤ 1152921504606846976 := by
    unfold fullR
    split
    · simp
    · omega
  rw [ht]
  generalize fullR r = q at *
  have k1 := h2 q.n ⟨by omega, by omega⟩
  have k2 := h2 q.d ⟨by omega, by omega⟩
  have m1 := itoa_le (n := q.n) (by unfold In64; omega)
  have m2 := itoa_le (n := q.d) (by unfold In64; omega)
  refine ⟨fun hg => ?_, fun hg => ?_⟩
  · refine callK_ro (k1) ?_ ?_
    · simp only [↓EVP0, EVQ0, EVQ1, EVQ2, EVQ3, EVQ4, EVA, EVK, EVFR, ↓reduceIte, Nat.reduceEqDiff, Nat.reduceAdd, Nat.reduceSub, Nat.reduceMul, Nat.reduceLT, Nat.reduceLeDiff, reduceCtorEq, Int.reduceToNat, Int.reduceLT, Int.reduceLE, Int.reduceAdd, Int.reduceSub, Int.reduceMul, Int.reduceNeg, Int.reduceEq, Nat.reduceMod, forall_eq_or_imp, forall_eq, forall_const, cond_true, cond_false, decide_true, decide_false, true_imp_iff, implies_true, Int.cast_ofNat_Int, forall_eq']
    simp only [↓EVP0, EVQ0, EVQ1, EVQ2, EVQ3, EVQ4, EVA, EVK, EVFR, ↓reduceIte, Nat.reduceEqDiff, Nat.reduceAdd, Nat.reduceSub, Nat.reduceMul, Nat.reduceLT, Nat.reduceLeDiff, reduceCtorEq, Int.reduceToNat, Int.reduceLT, Int.reduceLE, Int.reduceAdd, Int.reduceSub, Int.reduceMul, Int.reduceNeg, Int.reduceEq, Nat.reduceMod, forall_eq_or_imp, forall_eq, forall_const, cond_true, cond_false, decide_true, decide_false, true_imp_iff, implies_true, Int.cast_ofNat_Int, forall_eq']
    rw [if_pos (of_decide_eq_true hg)]
  · first | refine qCallK_ro (k1) ?_ ?_ | refine eCallK_ro (k1) ?_ ?_
    · simp only [↓EVP0, EVQ0, EVQ1, EVQ2, EVQ3, EVQ4, EVA, EVK, EVFR, ↓reduceIte, Nat.reduceEqDiff, Nat.reduceAdd, Nat.reduceSub, Nat.reduceMul, Nat.reduceLT, Nat.reduceLeDiff, reduceCtorEq, Int.reduceToNat, Int.reduceLT, Int.reduceLE, Int.reduceAdd, Int.reduceSub, Int.reduceMul, Int.reduceNeg, Int.reduceEq, Nat.reduceMod, forall_eq_or_imp, forall_eq, forall_const, cond_true, cond_false, decide_true, decide_false, true_imp_iff, implies_true, Int.cast_ofNat_Int, forall_eq']
    simp only [↓EVP0, EVQ0, EVQ1, EVQ2, EVQ3, EVQ4, EVA, EVK, EVFR, ↓reduceIte, Nat.reduceEqDiff, Nat.reduceAdd, Nat.reduceSub, Nat.reduceMul, Nat.reduceLT, Nat.reduceLeDiff, reduceCtorEq, Int.reduceToNat, Int.reduceLT, Int.reduceLE, Int.reduceAdd, Int.reduceSub, Int.reduceMul, Int.reduceNeg, Int.reduceEq, Nat.reduceMod, forall_eq_or_imp, forall_eq, forall_const, cond_true, cond_false, decide_true, decide_false, true_imp_iff, implies_true, Int.cast_ofNat_Int, forall_eq']
    have c1 : (⟨#[47]⟩ : ByteArray) = strB [47] := rfl
    rw [c1, strB_app, strB_size, strB_size, if_neg (of_decide_eq_false hg)]
    refine ⟨by simp only [List.length_singleton]; omega, ?_⟩
    first | refine qCallK_ro (k2) ?_ ?_ | refine eCallK_ro (k2) ?_ ?_
    · simp only [↓EVP0, EVQ0, EVQ1, EVQ2, EVQ3, EVQ4, EVA, EVK, EVFR, ↓reduceIte, Nat.reduceEqDiff, Nat.reduceAdd, Nat.reduceSub, Nat.reduceMul, Nat.reduceLT, Nat.reduceLeDiff, reduceCtorEq, Int.reduceToNat, Int.reduceLT, Int.reduceLE, Int.reduceAdd, Int.reduceSub, Int.reduceMul, Int.reduceNeg, Int.reduceEq, Nat.reduceMod, forall_eq_or_imp, forall_eq, forall_const, cond_true, cond_false, decide_true, decide_false, true_imp_iff, implies_true, Int.cast_ofNat_Int, forall_eq']
    simp only [↓EVP0, EVQ0, EVQ1, EVQ2, EVQ3, EVQ4, EVA, EVK, EVFR, ↓reduceIte, Nat.reduceEqDiff, Nat.reduceAdd, Nat.reduceSub, Nat.reduceMul, Nat.reduceLT, Nat.reduceLeDiff, reduceCtorEq, Int.reduceToNat, Int.reduceLT, Int.reduceLE, Int.reduceAdd, Int.reduceSub, Int.reduceMul, Int.reduceNeg, Int.reduceEq, Nat.reduceMod, forall_eq_or_imp, forall_eq, forall_const, cond_true, cond_false, decide_true, decide_false, true_imp_iff, implies_true, Int.cast_ofNat_Int, forall_eq']
    rw [strB_app, strB_size, strB_size, List.length_append]
    refine ⟨by simp only [List.length_singleton]; omega, ?_⟩
    rw [List.append_assoc]
    rfl
end Go.Proofs.YtfhifkcbdpgomaaDoor
namespace Go.Proofs.YtfhifkcbdpgomaaDoor
set_option linter.unusedSimpArgs false
set_option linter.unusedVariables false
open Go.RowKit
set_option maxRecDepth 20000

theorem sb_str (s : By) (i : Nat) : sbyte (strB s) i = s.getD i 0 := by
  simp [sbyte, strB]
theorem lwp_loopBr {P : Program} {nb : Nat} {a : LC} {E : Nat → LS → LH → Prop} {T : LS → LH → Prop} {s s' : LS} {h h' : LH} {c : Bool}
    {α : Type} (I : α → Prop) (sv : α → List (Nat × LV)) (ho : α → List (Nat × LO)) (μ : α → Nat) (x0 x1 : α) (h0 : c = true → I x0) (h01 : c = false → I x1) (h1 : c = true → weakTo s h (sv x0) (ho x0)) (h11 : c = false → weakTo s' h' (sv x1) (ho x1)) (h2 : ∀ x, nb ≤ (ho x).length)
    (h3 : ∀ x, I x → lwp P nb a (fun s' h' => ∃ y, I y ∧ weakTo s' h' (sv y) (ho y) ∧ μ y < μ x) E T (mkS (sv x)) (mkH (ho x))) : Br c (@lwpL P nb a ⟨E, T⟩ s h) (@lwpL P nb a ⟨E, T⟩ s' h') :=
  ⟨fun hc => lwp_loop I sv ho μ x0 (h0 hc) (h1 hc) h2 h3, fun hc => lwp_loop I sv ho μ x1 (h01 hc) (h11 hc) h2 h3⟩
structure Qst where
  i : Nat
  p : Nat
  a : Int
  b : Int
structure QI (s : By) (R : Option (Nat × Int × Int)) (x : Qst) : Prop where
  i : x.i ≤ s.length
  p : x.p ≤ 1
  a : 0 ≤ x.a
  a2 : x.a ≤ 1441151880758558729
  b : 0 ≤ x.b
  b2 : x.b ≤ 1441151880758558729
  r : rlQ (s.drop x.i) x.p x.a x.b = R
theorem rl_end {s : By} {i p : Nat} {a b : Int} {Q : Option (Nat × Int × Int)} (hr : rlQ (s.drop i) p a b = Q) (h : ¬ (i : Int) < s.length) : Q = some (p, a, b) := by
  rw [List.drop_eq_nil_of_le (by omega)] at hr
  exact hr.symm
theorem rl_step {s : By} {i p : Nat} {a b : Int} {Q : Option (Nat × Int × Int)} (hr : rlQ (s.drop i) p a b = Q) (h : i < s.length) : (if s.getD i 0 = 47 ∧ p = 0 then rlQ (s.drop (i + 1)) 1 a b else if (s.getD i 0).toNat < 48 ∨ 57 < (s.getD i 0).toNat ∨ 144115188075855872 < (if p = 0 then a else b) then none else
      if p = 0 then rlQ (s.drop (i + 1)) p (10 * a + (((s.getD i 0).toNat : Int) - 48)) b else rlQ (s.drop (i + 1)) p a (10 * b + (((s.getD i 0).toNat : Int) - 48))) = Q := by
  rw [List.drop_eq_getElem_cons h] at hr
  rw [List.getD_eq_getElem?_getD, List.getElem?_eq_getElem h]
  exact hr
theorem u8w {c : UInt8} (h1 : 48 ≤ c.toNat) : IntKind.u8.wrap ((c.toNat : Int) - 48) = (c.toNat : Int) - 48 := by
  have := c.toNat_lt
  unfold IntKind.wrap
  simp [IntKind.bits, IntKind.signed]
  omega
theorem b47 {c : UInt8} : ((c.toNat : Int) = 47) ↔ c = 47 := ⟨fun h => UInt8.toNat_inj.1 (by rw [show (47 : UInt8).toNat = 47 from rfl]; omega), fun h => by rw [h]; rfl⟩
theorem rp_fin {n d : Int} {R : Option Rt} {s : By} (hR : R = if d ≠ 0 ∧ vldR ⟨n, d⟩ = true ∧ txtQ ⟨n, d⟩ = s then some ⟨n, d⟩ else none) {c : Bool} (hc : c = !decide (d ≠ 0 ∧ vldR ⟨n, d⟩ = true ∧ txtQ ⟨n, d⟩ = s)) :
    Br c ((0 = (R.getD ⟨0, 0⟩).n ∧ 0 = (R.getD ⟨0, 0⟩).d) ∧ false = R.isSome) ((n = (R.getD ⟨0, 0⟩).n ∧ d = (R.getD ⟨0, 0⟩).d) ∧ true = R.isSome) := by
  subst hc hR
  by_cases h : d ≠ 0 ∧ vldR ⟨n, d⟩ = true ∧ txtQ ⟨n, d⟩ = s
  · rw [if_pos h, decide_eq_true h]
    exact ⟨fun h => by simp at h, fun _ => ⟨⟨rfl, rfl⟩, rfl⟩⟩
  · rw [if_neg h, decide_eq_false h]
    exact ⟨fun _ => ⟨⟨rfl, rfl⟩, rfl⟩, fun h => by simp at h⟩
theorem ev_rparse (s : By) (hs : s.length ≤ 4000000000000000000) : Ev Tryd.prog 11 [.sc (.string (strB s))] (.tup [ratV ((rpQ s).getD ⟨0, 0⟩), .sc (.bool (rpQ s).isSome)]) := by
  unfold ratV
  refine ev_fn Tryd.func11 comp11 (show 1 ≤ Tryd.f11.ntmps by decide) ?_; unfold cf11 rf11; simp only [↓EVP0, EVQ0, EVQ1, EVQ2, EVQ3, EVQ4, EVA, EVK, EVFR, ↓reduceIte, Nat.reduceEqDiff, Nat.reduceAdd, Nat.reduceSub, Nat.reduceMul, Nat.reduceLT, Nat.reduceLeDiff, reduceCtorEq, Int.reduceToNat, Int.reduceLT, Int.reduceLE, Int.reduceAdd, Int.reduceSub, Int.reduceMul, Int.reduceNeg, Int.reduceEq, Nat.reduceMod, forall_eq_or_imp, forall_eq, forall_const, cond_true, cond_false, decide_true, decide_false, true_imp_iff, implies_true, Int.cast_ofNat_Int, forall_eq']
  rw [strB_size, sb_str]
  refine ⟨fun h => by have := of_decide_eq_true h; omega, ?_⟩
  have hc : (bif decide (0 < (s.length : Int)) then decide (((s.getD 0 0).toNat : Int) = 45) else false) = decide (s.head? = some 45) := by
    cases s with
    | nil => rfl
    | cons c r =>
      rw [List.getD_cons_zero, decide_eq_true (show (0 : Int) < ((c :: r).length : Nat) by simp only [List.length_cons]; omega), cond_true]
      refine decide_eq_decide.2 ⟨fun h => ?_, fun h => ?_⟩
      · rw [List.head?_cons, show c = 45 from UInt8.toNat_inj.1 (by rw [show (45 : UInt8).toNat = 45 from rfl]; omega)]
      · simp only [List.head?_cons, Option.some.injEq] at h
        rw [h]; rfl
  rw [hc]
  have hR : rpQ s = match rlQ (if s.head? = some 45 then s.drop 1 else s) 0 0 0 with
    | none => none
    | some (p, a, b) => if (if p = 0 then (1 : Int) else b) ≠ 0 ∧ vldR ⟨if s.head? = some 45 then -a else a, if p = 0 then 1 else b⟩ = true ∧ txtQ ⟨if s.head? = some 45 then -a else a, if p = 0 then 1 else b⟩ = s then some ⟨if s.head? = some 45 then -a else a, if p = 0 then 1 else b⟩ else none := rfl
  generalize rpQ s = R at *
  generalize hQ : rlQ (if s.head? = some 45 then s.drop 1 else s) 0 0 0 = Q at *
  refine lwp_loopBr (α := Qst) (QI s Q) (fun x => [(0, .sc (.string (strB s))), (2, .ptr 0 0 0 0 0), (4, .sc (.int .i64 (if s.head? = some 45 then -1 else 1))), (5, .sc (.int .i64 x.i)), (6, .ptr 1 0 0 0 0), (7, .sc (.int .i64 x.p))])
    (fun x => [(0, .box [.sc (.int .i64 0), .sc (.int .i64 0)]), (0, .box [.sc (.int .i64 x.a), .sc (.int .i64 x.b)])]) (fun x => s.length - x.i) ⟨1, 0, 0, 0⟩ ⟨0, 0, 0, 0⟩ (fun h => ?_) (fun h => ?_) (fun h => ?_) (fun h => ?_) (fun _ => Nat.zero_le _) ?_
  · have h' := of_decide_eq_true h
    have : 1 ≤ s.length := by cases s with
      | nil => simp at h'
      | cons c r => simp
    rw [if_pos h'] at hQ
    exact ⟨this, by simp, by simp, by simp, by simp, by simp, hQ⟩
  · rw [if_neg (of_decide_eq_false h)] at hQ
    exact ⟨by simp, by simp, by simp, by simp, by simp, by simp, hQ⟩
  · rw [if_pos (of_decide_eq_true h)]
    simp only [↓EVP0, EVQ0, EVQ1, EVQ2, EVQ3, EVQ4, EVA, EVK, EVFR, ↓reduceIte, Nat.reduceEqDiff, Nat.reduceAdd, Nat.reduceSub, Nat.reduceMul, Nat.reduceLT, Nat.reduceLeDiff, reduceCtorEq, Int.reduceToNat, Int.reduceLT, Int.reduceLE, Int.reduceAdd, Int.reduceSub, Int.reduceMul, Int.reduceNeg, Int.reduceEq, Nat.reduceMod, forall_eq_or_imp, forall_eq, forall_const, cond_true, cond_false, decide_true, decide_false, true_imp_iff, implies_true, Int.cast_ofNat_Int, forall_eq']
  · rw [if_neg (of_decide_eq_false h)]
    simp only [↓EVP0, EVQ0, EVQ1, EVQ2, EVQ3, EVQ4, EVA, EVK, EVFR, ↓reduceIte, Nat.reduceEqDiff, Nat.reduceAdd, Nat.reduceSub, Nat.reduceMul, Nat.reduceLT, Nat.reduceLeDiff, reduceCtorEq, Int.reduceToNat, Int.reduceLT, Int.reduceLE, Int.reduceAdd, Int.reduceSub, Int.reduceMul, Int.reduceNeg, Int.reduceEq, Nat.reduceMod, forall_eq_or_imp, forall_eq, forall_const, cond_true, cond_false, decide_true, decide_false, true_imp_iff, implies_true, Int.cast_ofNat_Int, forall_eq']
  rintro ⟨i, p, a, b⟩ ⟨hi, hp, ha, ha2, hb, hb2, hr⟩
  simp only at hi hp ha ha2 hb hb2 hr ⊢
  unfold lb11_0
  have hp2 : p = 0 ∨ p = 1 := by omega
  rcases hp2 with rfl | rfl
  · simp only [↓EVP0, EVQ0, EVQ1, EVQ2, EVQ3, EVQ4, EVA, EVK, EVFR, ↓reduceIte, Nat.reduceEqDiff, Nat.reduceAdd, Nat.reduceSub, Nat.reduceMul, Nat.reduceLT, Nat.reduceLeDiff, reduceCtorEq, Int.reduceToNat, Int.reduceLT, Int.reduceLE, Int.reduceAdd, Int.reduceSub, Int.reduceMul, Int.reduceNeg, Int.reduceEq, Nat.reduceMod, forall_eq_or_imp, forall_eq, forall_const, cond_true, cond_false, decide_true, decide_false, true_imp_iff, implies_true, Int.cast_ofNat_Int, forall_eq']
    rw [strB_size, sb_str]
    refine ⟨fun hg => ⟨⟨by omega, by have := of_decide_eq_true hg; omega⟩, fun hg2 => ?_, fun hg2 => ?_⟩, fun hg => ?_⟩
    · have hi2 : i < s.length := by have := of_decide_eq_true hg; omega
      have hst := rl_step hr hi2
      have hc : s.getD i 0 = 47 := by
        by_cases e : ((s.getD i 0).toNat : Int) = 47
        · exact b47.1 e
        · rw [decide_eq_false e] at hg2; simp at hg2
      rw [if_pos ⟨hc, rfl⟩] at hst
      exact ⟨by unfold In64; omega, ⟨i + 1, 1, a, b⟩, ⟨by simp only; omega, by simp, ha, ha2, hb, hb2, hst⟩, ⟨⟨by simp, rfl⟩, rfl⟩, by simp only; omega⟩
    · have hi2 : i < s.length := by have := of_decide_eq_true hg; omega
      have hst := rl_step hr hi2
      have hc : ¬ s.getD i 0 = 47 := by
        intro e
        rw [decide_eq_true (b47.2 e)] at hg2; simp at hg2
      rw [if_neg (fun h => hc h.1), if_pos rfl, if_pos rfl] at hst
      refine ⟨⟨by omega, hi2⟩, fun _ => ⟨by omega, hi2⟩, fun hg3 => ?_, fun hg3 => ?_⟩
      · have : (s.getD i 0).toNat < 48 ∨ 57 < (s.getD i 0).toNat ∨ 144115188075855872 < a := by
          revert hg3
          by_cases e1 : ((s.getD i 0).toNat : Int) < 48 <;> by_cases e2 : 57 < ((s.getD i 0).toNat : Int) <;> by_cases e3 : 144115188075855872 < a <;> simp [e1, e2, e3] <;> omega
        rw [if_pos this] at hst
        rw [← hst] at hR
        rw [hR]; exact ⟨⟨rfl, rfl⟩, rfl⟩
      · have h3 : ¬ (s.getD i 0).toNat < 48 ∧ ¬ 57 < (s.getD i 0).toNat ∧ ¬ 144115188075855872 < a := by
          revert hg3
          by_cases e1 : ((s.getD i 0).toNat : Int) < 48 <;> by_cases e2 : 57 < ((s.getD i 0).toNat : Int) <;> by_cases e3 : 144115188075855872 < a <;> simp [e1, e2, e3] <;> omega
        rw [if_neg (by omega)] at hst
        rw [u8w (by omega)]
        exact ⟨by unfold In64; omega, ⟨by omega, hi2⟩, by unfold In64; omega, by unfold In64; omega, by unfold In64; omega, ⟨i + 1, 0, 10 * a + (((s.getD i 0).toNat : Int) - 48), b⟩, ⟨by simp only; omega, by simp, by simp only; omega, by simp only; omega, hb, hb2, hst⟩, ⟨⟨by simp, rfl⟩, rfl⟩, by simp only; omega⟩
    · have hq := rl_end hr (of_decide_eq_false hg)
      rw [hq] at hR
      rw [show (if s.head? = some 45 then -1 else 1) * a = if s.head? = some 45 then -a else a by split <;> omega]
      simp only at hR
      have hn : In64 (if s.head? = some 45 then -a else a) := by unfold In64; split <;> omega
      generalize (if s.head? = some 45 then -a else a) = n at *
      refine ⟨hn, ?_⟩
      have k1 := ev_rvalid ⟨n, 1⟩
      have k2 := fun h => ev_rtext ⟨n, 1⟩ h
      unfold ratV at k1 k2
      (refine lops_ge_imp ?_; simp only [↓EVP0, EVQ0, EVQ1, EVQ2, EVQ3, EVQ4, EVA, EVK, EVFR, ↓reduceIte, Nat.reduceEqDiff, Nat.reduceAdd, Nat.reduceSub, Nat.reduceMul, Nat.reduceLT, Nat.reduceLeDiff, reduceCtorEq, Int.reduceToNat, Int.reduceLT, Int.reduceLE, Int.reduceAdd, Int.reduceSub, Int.reduceMul, Int.reduceNeg, Int.reduceEq, Nat.reduceMod, forall_eq_or_imp, forall_eq, forall_const, cond_true, cond_false, decide_true, decide_false, true_imp_iff, implies_true, Int.cast_ofNat_Int, forall_eq'])
      refine gCallK_ro _ (fun _ => k1) (fun _ => ?_) ?_
      · simp only [↓EVP0, EVQ0, EVQ1, EVQ2, EVQ3, EVQ4, EVA, EVK, EVFR, ↓reduceIte, Nat.reduceEqDiff, Nat.reduceAdd, Nat.reduceSub, Nat.reduceMul, Nat.reduceLT, Nat.reduceLeDiff, reduceCtorEq, Int.reduceToNat, Int.reduceLT, Int.reduceLE, Int.reduceAdd, Int.reduceSub, Int.reduceMul, Int.reduceNeg, Int.reduceEq, Nat.reduceMod, forall_eq_or_imp, forall_eq, forall_const, cond_true, cond_false, decide_true, decide_false, true_imp_iff, implies_true, Int.cast_ofNat_Int, forall_eq']
      simp only [↓EVP0, EVQ0, EVQ1, EVQ2, EVQ3, EVQ4, EVA, EVK, EVFR, ↓reduceIte, Nat.reduceEqDiff, Nat.reduceAdd, Nat.reduceSub, Nat.reduceMul, Nat.reduceLT, Nat.reduceLeDiff, reduceCtorEq, Int.reduceToNat, Int.reduceLT, Int.reduceLE, Int.reduceAdd, Int.reduceSub, Int.reduceMul, Int.reduceNeg, Int.reduceEq, Nat.reduceMod, forall_eq_or_imp, forall_eq, forall_const, cond_true, cond_false, decide_true, decide_false, true_imp_iff, implies_true, Int.cast_ofNat_Int, forall_eq']
      (refine lops_ge_imp ?_; simp only [↓EVP0, EVQ0, EVQ1, EVQ2, EVQ3, EVQ4, EVA, EVK, EVFR, ↓reduceIte, Nat.reduceEqDiff, Nat.reduceAdd, Nat.reduceSub, Nat.reduceMul, Nat.reduceLT, Nat.reduceLeDiff, reduceCtorEq, Int.reduceToNat, Int.reduceLT, Int.reduceLE, Int.reduceAdd, Int.reduceSub, Int.reduceMul, Int.reduceNeg, Int.reduceEq, Nat.reduceMod, forall_eq_or_imp, forall_eq, forall_const, cond_true, cond_false, decide_true, decide_false, true_imp_iff, implies_true, Int.cast_ofNat_Int, forall_eq'])
      refine gCallK_ro _ (fun hg => k2 ?_) (fun _ => ?_) ?_
      · revert hg
        cases vldR _ <;> simp
      · simp only [↓EVP0, EVQ0, EVQ1, EVQ2, EVQ3, EVQ4, EVA, EVK, EVFR, ↓reduceIte, Nat.reduceEqDiff, Nat.reduceAdd, Nat.reduceSub, Nat.reduceMul, Nat.reduceLT, Nat.reduceLeDiff, reduceCtorEq, Int.reduceToNat, Int.reduceLT, Int.reduceLE, Int.reduceAdd, Int.reduceSub, Int.reduceMul, Int.reduceNeg, Int.reduceEq, Nat.reduceMod, forall_eq_or_imp, forall_eq, forall_const, cond_true, cond_false, decide_true, decide_false, true_imp_iff, implies_true, Int.cast_ofNat_Int, forall_eq']
      simp only [↓EVP0, EVQ0, EVQ1, EVQ2, EVQ3, EVQ4, EVA, EVK, EVFR, ↓reduceIte, Nat.reduceEqDiff, Nat.reduceAdd, Nat.reduceSub, Nat.reduceMul, Nat.reduceLT, Nat.reduceLeDiff, reduceCtorEq, Int.reduceToNat, Int.reduceLT, Int.reduceLE, Int.reduceAdd, Int.reduceSub, Int.reduceMul, Int.reduceNeg, Int.reduceEq, Nat.reduceMod, forall_eq_or_imp, forall_eq, forall_const, cond_true, cond_false, decide_true, decide_false, true_imp_iff, implies_true, Int.cast_ofNat_Int, forall_eq']
      refine rp_fin hR ?_
      rw [show decide (strB (txtQ ⟨n, 1⟩) = strB s) = decide (txtQ ⟨n, 1⟩ = s) from decide_eq_decide.2 ⟨fun h => strB_inj h, fun h => by rw [h]⟩]
      by_cases e1 : vldR ⟨n, 1⟩ = true <;> by_cases e2 : txtQ ⟨n, 1⟩ = s <;> simp [e1, e2]
  · simp only [↓EVP0, EVQ0, EVQ1, EVQ2, EVQ3, EVQ4, EVA, EVK, EVFR, ↓reduceIte, Nat.reduceEqDiff, Nat.reduceAdd, Nat.reduceSub, Nat.reduceMul, Nat.reduceLT, Nat.reduceLeDiff, reduceCtorEq, Int.reduceToNat, Int.reduceLT, Int.reduceLE, Int.reduceAdd, Int.reduceSub, Int.reduceMul, Int.reduceNeg, Int.reduceEq, Nat.reduceMod, forall_eq_or_imp, forall_eq, forall_const, cond_true, cond_false, decide_true, decide_false, true_imp_iff, implies_true, Int.cast_ofNat_Int, forall_eq']
    rw [strB_size, sb_str]
    refine ⟨fun hg => ⟨⟨by omega, by have := of_decide_eq_true hg; omega⟩, fun hg2 => ?_, fun hg2 => ?_⟩, fun hg => ?_⟩
    · simp at hg2
    · have hi2 : i < s.length := by have := of_decide_eq_true hg; omega
      have hst := rl_step hr hi2
      rw [if_neg (by simp)] at hst
      simp only [show ¬ (1 : Nat) = 0 by omega, if_false] at hst
      refine ⟨⟨by omega, hi2⟩, fun _ => ⟨by omega, hi2⟩, fun hg3 => ?_, fun hg3 => ?_⟩
      · have : (s.getD i 0).toNat < 48 ∨ 57 < (s.getD i 0).toNat ∨ 144115188075855872 < b := by
          revert hg3
          by_cases e1 : ((s.getD i 0).toNat : Int) < 48 <;> by_cases e2 : 57 < ((s.getD i 0).toNat : Int) <;> by_cases e3 : 144115188075855872 < b <;> simp [e1, e2, e3] <;> omega
        rw [if_pos this] at hst
        rw [← hst] at hR
        rw [hR]; exact ⟨⟨rfl, rfl⟩, rfl⟩
      · have h3 : ¬ (s.getD i 0).toNat < 48 ∧ ¬ 57 < (s.getD i 0).toNat ∧ ¬ 144115188075855872 < b := by
          revert hg3
          by_cases e1 : ((s.getD i 0).toNat : Int) < 48 <;> by_cases e2 : 57 < ((s.getD i 0).toNat : Int) <;> by_cases e3 : 144115188075855872 < b <;> simp [e1, e2, e3] <;> omega
        rw [if_neg (by omega)] at hst
        rw [u8w (by omega)]
        exact ⟨by unfold In64; omega, ⟨by omega, hi2⟩, by unfold In64; omega, by unfold In64; omega, by unfold In64; omega, ⟨i + 1, 1, a, 10 * b + (((s.getD i 0).toNat : Int) - 48)⟩, ⟨by simp only; omega, by simp, ha, ha2, by simp only; omega, by simp only; omega, hst⟩, ⟨⟨by simp, rfl⟩, rfl⟩, by simp only; omega⟩
    · have hq := rl_end hr (of_decide_eq_false hg)
      rw [hq] at hR
      rw [show (if s.head? = some 45 then -1 else 1) * a = if s.head? = some 45 then -a else a by split <;> omega]
      simp only at hR
      have hn : In64 (if s.head? = some 45 then -a else a) := by unfold In64; split <;> omega
      generalize (if s.head? = some 45 then -a else a) = n at *
      refine ⟨hn, ?_⟩
      have k1 := ev_rvalid ⟨n, b⟩
      have k2 := fun h => ev_rtext ⟨n, b⟩ h
      unfold ratV at k1 k2
      (refine lops_ge_imp ?_; simp only [↓EVP0, EVQ0, EVQ1, EVQ2, EVQ3, EVQ4, EVA, EVK, EVFR, ↓reduceIte, Nat.reduceEqDiff, Nat.reduceAdd, Nat.reduceSub, Nat.reduceMul, Nat.reduceLT, Nat.reduceLeDiff, reduceCtorEq, Int.reduceToNat, Int.reduceLT, Int.reduceLE, Int.reduceAdd, Int.reduceSub, Int.reduceMul, Int.reduceNeg, Int.reduceEq, Nat.reduceMod, forall_eq_or_imp, forall_eq, forall_const, cond_true, cond_false, decide_true, decide_false, true_imp_iff, implies_true, Int.cast_ofNat_Int, forall_eq'])
      refine gCallK_ro _ (fun _ => k1) (fun _ => ?_) ?_
      · simp only [↓EVP0, EVQ0, EVQ1, EVQ2, EVQ3, EVQ4, EVA, EVK, EVFR, ↓reduceIte, Nat.reduceEqDiff, Nat.reduceAdd, Nat.reduceSub, Nat.reduceMul, Nat.reduceLT, Nat.reduceLeDiff, reduceCtorEq, Int.reduceToNat, Int.reduceLT, Int.reduceLE, Int.reduceAdd, Int.reduceSub, Int.reduceMul, Int.reduceNeg, Int.reduceEq, Nat.reduceMod, forall_eq_or_imp, forall_eq, forall_const, cond_true, cond_false, decide_true, decide_false, true_imp_iff, implies_true, Int.cast_ofNat_Int, forall_eq']
      simp only [↓EVP0, EVQ0, EVQ1, EVQ2, EVQ3, EVQ4, EVA, EVK, EVFR, ↓reduceIte, Nat.reduceEqDiff, Nat.reduceAdd, Nat.reduceSub, Nat.reduceMul, Nat.reduceLT, Nat.reduceLeDiff, reduceCtorEq, Int.reduceToNat, Int.reduceLT, Int.reduceLE, Int.reduceAdd, Int.reduceSub, Int.reduceMul, Int.reduceNeg, Int.reduceEq, Nat.reduceMod, forall_eq_or_imp, forall_eq, forall_const, cond_true, cond_false, decide_true, decide_false, true_imp_iff, implies_true, Int.cast_ofNat_Int, forall_eq']
      (refine lops_ge_imp ?_; simp only [↓EVP0, EVQ0, EVQ1, EVQ2, EVQ3, EVQ4, EVA, EVK, EVFR, ↓reduceIte, Nat.reduceEqDiff, Nat.reduceAdd, Nat.reduceSub, Nat.reduceMul, Nat.reduceLT, Nat.reduceLeDiff, reduceCtorEq, Int.reduceToNat, Int.reduceLT, Int.reduceLE, Int.reduceAdd, Int.reduceSub, Int.reduceMul, Int.reduceNeg, Int.reduceEq, Nat.reduceMod, forall_eq_or_imp, forall_eq, forall_const, cond_true, cond_false, decide_true, decide_false, true_imp_iff, implies_true, Int.cast_ofNat_Int, forall_eq'])
      refine gCallK_ro _ (fun hg => k2 ?_) (fun _ => ?_) ?_
      · revert hg
        cases vldR _ <;> simp
      · simp only [↓EVP0, EVQ0, EVQ1, EVQ2, EVQ3, EVQ4, EVA, EVK, EVFR, ↓reduceIte, Nat.reduceEqDiff, Nat.reduceAdd, Nat.reduceSub, Nat.reduceMul, Nat.reduceLT, Nat.reduceLeDiff, reduceCtorEq, Int.reduceToNat, Int.reduceLT, Int.reduceLE, Int.reduceAdd, Int.reduceSub, Int.reduceMul, Int.reduceNeg, Int.reduceEq, Nat.reduceMod, forall_eq_or_imp, forall_eq, forall_const, cond_true, cond_false, decide_true, decide_false, true_imp_iff, implies_true, Int.cast_ofNat_Int, forall_eq']
      simp only [↓EVP0, EVQ0, EVQ1, EVQ2, EVQ3, EVQ4, EVA, EVK, EVFR, ↓reduceIte, Nat.reduceEqDiff, Nat.reduceAdd, Nat.reduceSub, Nat.reduceMul, Nat.reduceLT, Nat.reduceLeDiff, reduceCtorEq, Int.reduceToNat, Int.reduceLT, Int.reduceLE, Int.reduceAdd, Int.reduceSub, Int.reduceMul, Int.reduceNeg, Int.reduceEq, Nat.reduceMod, forall_eq_or_imp, forall_eq, forall_const, cond_true, cond_false, decide_true, decide_false, true_imp_iff, implies_true, Int.cast_ofNat_Int, forall_eq']
      refine rp_fin hR ?_
      rw [show decide (strB (txtQ ⟨n, b⟩) = strB s) = decide (txtQ ⟨n, b⟩ = s) from decide_eq_decide.2 ⟨fun h => strB_inj h, fun h => by rw [h]⟩]
      by_cases e0 : b = 0 <;> by_cases e1 : vldR ⟨n, b⟩ = true <;> by_cases e2 : txtQ ⟨n, b⟩ = s <;> simp [e0, e1, e2]
end Go.Proofs.YtfhifkcbdpgomaaDoor
namespace Go.Proofs.YtfhifkcbdpgomaaDoor
set_option linter.unusedSimpArgs false
set_option linter.unusedVariables false
open Go.RowKit
set_option maxRecDepth 20000

theorem txt_full {r : Rt} (hv : vldR r = true) : txtQ (fullR r) = txtQ r ∧ vldR (fullR r) = true ∧ 1 ≤ (fullR r).d := by
  have hb := vld_bnd hv
  by_cases e : r.d = 0
  · have h0 : r.n = 0 := by
      unfold vldR at hv
      simp only [Bool.or_eq_true, Bool.and_eq_true, decide_eq_true_eq] at hv
      omega
    have e2 : r = ⟨0, 0⟩ := by cases r; simp only at e h0; rw [e, h0]
    subst e2
    exact ⟨by kernel_rfl, by decide, by decide⟩
  · unfold fullR
    rw [if_neg e]
    exact ⟨rfl, hv, by omega⟩
theorem vld_rtok {r : Rt} (hv : vldR r = true) : RtOk r := by
  have hb := vld_bnd hv
  exact ⟨by unfold In64; omega, by unfold In64; omega⟩
theorem cmp_full {r : Rt} (hv : vldR r = true) : cmpR (fullR r) r = 0 := by
  have h1 := txt_full hv
  have h2 : nrmR r = fullR r := by
    unfold nrmR fullR
    by_cases e : r.d = 0
    · have h0 : r.n = 0 := by
        unfold vldR at hv
        simp only [Bool.or_eq_true, Bool.and_eq_true, decide_eq_true_eq] at hv
        omega
      rw [if_pos e, if_pos e, h0]
    · rw [if_neg e, if_neg e]
  have h3 : nrmR (fullR r) = fullR r := by
    rw [nrmR, if_neg (by omega)]
  unfold cmpR
  rw [if_pos ⟨h1.2.1, hv⟩, h2, h3]
  simp [cmpE, cmpI]
theorem ev_lawTexts (r : Rt) (hr : RtOk r) (s : By) : Ev Tryd.prog 3 [ratV r, .sc (.string (strB s))] (.sc (.bool true)) := by
  have h1 := ev_awake
  have h2 := ev_textQ r hr
  have h3 := ev_valid r
  have h4 := ev_plain
  have h5 := fun w hw => ev_parseQ w hw
  have h6 := fun w hw => ev_rparse w hw
  have h7 := fun a b ha hb => ev_cmp a b ha hb
  have h8 := fun q hq => ev_rtext q hq
  unfold ratV at *
  refine ev_fn Tryd.func3 comp3 (show 2 ≤ Tryd.f3.ntmps by decide) ?_; unfold cf3 rf3; simp only [↓EVP0, EVQ0, EVQ1, EVQ2, EVQ3, EVQ4, EVA, EVK, EVFR, ↓reduceIte, Nat.reduceEqDiff, Nat.reduceAdd, Nat.reduceSub, Nat.reduceMul, Nat.reduceLT, Nat.reduceLeDiff, reduceCtorEq, Int.reduceToNat, Int.reduceLT, Int.reduceLE, Int.reduceAdd, Int.reduceSub, Int.reduceMul, Int.reduceNeg, Int.reduceEq, Nat.reduceMod, forall_eq_or_imp, forall_eq, forall_const, cond_true, cond_false, decide_true, decide_false, true_imp_iff, implies_true, Int.cast_ofNat_Int, forall_eq']
  refine callK_ro (h1) ?_ ?_
  · simp only [↓EVP0, EVQ0, EVQ1, EVQ2, EVQ3, EVQ4, EVA, EVK, EVFR, ↓reduceIte, Nat.reduceEqDiff, Nat.reduceAdd, Nat.reduceSub, Nat.reduceMul, Nat.reduceLT, Nat.reduceLeDiff, reduceCtorEq, Int.reduceToNat, Int.reduceLT, Int.reduceLE, Int.reduceAdd, Int.reduceSub, Int.reduceMul, Int.reduceNeg, Int.reduceEq, Nat.reduceMod, forall_eq_or_imp, forall_eq, forall_const, cond_true, cond_false, decide_true, decide_false, true_imp_iff, implies_true, Int.cast_ofNat_Int, forall_eq']
  simp only [↓EVP0, EVQ0, EVQ1, EVQ2, EVQ3, EVQ4, EVA, EVK, EVFR, ↓reduceIte, Nat.reduceEqDiff, Nat.reduceAdd, Nat.reduceSub, Nat.reduceMul, Nat.reduceLT, Nat.reduceLeDiff, reduceCtorEq, Int.reduceToNat, Int.reduceLT, Int.reduceLE, Int.reduceAdd, Int.reduceSub, Int.reduceMul, Int.reduceNeg, Int.reduceEq, Nat.reduceMod, forall_eq_or_imp, forall_eq, forall_const, cond_true, cond_false, decide_true, decide_false, true_imp_iff, implies_true, Int.cast_ofNat_Int, forall_eq']
  refine ⟨fun _ => ?_, fun hg => ?_⟩
  · refine callK_ro (h1) ?_ ?_
    · simp only [↓EVP0, EVQ0, EVQ1, EVQ2, EVQ3, EVQ4, EVA, EVK, EVFR, ↓reduceIte, Nat.reduceEqDiff, Nat.reduceAdd, Nat.reduceSub, Nat.reduceMul, Nat.reduceLT, Nat.reduceLeDiff, reduceCtorEq, Int.reduceToNat, Int.reduceLT, Int.reduceLE, Int.reduceAdd, Int.reduceSub, Int.reduceMul, Int.reduceNeg, Int.reduceEq, Nat.reduceMod, forall_eq_or_imp, forall_eq, forall_const, cond_true, cond_false, decide_true, decide_false, true_imp_iff, implies_true, Int.cast_ofNat_Int, forall_eq']
    simp only [↓EVP0, EVQ0, EVQ1, EVQ2, EVQ3, EVQ4, EVA, EVK, EVFR, ↓reduceIte, Nat.reduceEqDiff, Nat.reduceAdd, Nat.reduceSub, Nat.reduceMul, Nat.reduceLT, Nat.reduceLeDiff, reduceCtorEq, Int.reduceToNat, Int.reduceLT, Int.reduceLE, Int.reduceAdd, Int.reduceSub, Int.reduceMul, Int.reduceNeg, Int.reduceEq, Nat.reduceMod, forall_eq_or_imp, forall_eq, forall_const, cond_true, cond_false, decide_true, decide_false, true_imp_iff, implies_true, Int.cast_ofNat_Int, forall_eq']
  have hs : s.length ≤ 100 := by
    have := of_decide_eq_false hg
    rw [strB_size] at this
    omega
  refine callK_ro (h2) ?_ ?_
  · simp only [↓EVP0, EVQ0, EVQ1, EVQ2, EVQ3, EVQ4, EVA, EVK, EVFR, ↓reduceIte, Nat.reduceEqDiff, Nat.reduceAdd, Nat.reduceSub, Nat.reduceMul, Nat.reduceLT, Nat.reduceLeDiff, reduceCtorEq, Int.reduceToNat, Int.reduceLT, Int.reduceLE, Int.reduceAdd, Int.reduceSub, Int.reduceMul, Int.reduceNeg, Int.reduceEq, Nat.reduceMod, forall_eq_or_imp, forall_eq, forall_const, cond_true, cond_false, decide_true, decide_false, true_imp_iff, implies_true, Int.cast_ofNat_Int, forall_eq']
  simp only [↓EVP0, EVQ0, EVQ1, EVQ2, EVQ3, EVQ4, EVA, EVK, EVFR, ↓reduceIte, Nat.reduceEqDiff, Nat.reduceAdd, Nat.reduceSub, Nat.reduceMul, Nat.reduceLT, Nat.reduceLeDiff, reduceCtorEq, Int.reduceToNat, Int.reduceLT, Int.reduceLE, Int.reduceAdd, Int.reduceSub, Int.reduceMul, Int.reduceNeg, Int.reduceEq, Nat.reduceMod, forall_eq_or_imp, forall_eq, forall_const, cond_true, cond_false, decide_true, decide_false, true_imp_iff, implies_true, Int.cast_ofNat_Int, forall_eq']
  have h3' := h3 hr
  refine callK_ro (h3') ?_ ?_
  · simp only [↓EVP0, EVQ0, EVQ1, EVQ2, EVQ3, EVQ4, EVA, EVK, EVFR, ↓reduceIte, Nat.reduceEqDiff, Nat.reduceAdd, Nat.reduceSub, Nat.reduceMul, Nat.reduceLT, Nat.reduceLeDiff, reduceCtorEq, Int.reduceToNat, Int.reduceLT, Int.reduceLE, Int.reduceAdd, Int.reduceSub, Int.reduceMul, Int.reduceNeg, Int.reduceEq, Nat.reduceMod, forall_eq_or_imp, forall_eq, forall_const, cond_true, cond_false, decide_true, decide_false, true_imp_iff, implies_true, Int.cast_ofNat_Int, forall_eq']
  simp only [↓EVP0, EVQ0, EVQ1, EVQ2, EVQ3, EVQ4, EVA, EVK, EVFR, ↓reduceIte, Nat.reduceEqDiff, Nat.reduceAdd, Nat.reduceSub, Nat.reduceMul, Nat.reduceLT, Nat.reduceLeDiff, reduceCtorEq, Int.reduceToNat, Int.reduceLT, Int.reduceLE, Int.reduceAdd, Int.reduceSub, Int.reduceMul, Int.reduceNeg, Int.reduceEq, Nat.reduceMod, forall_eq_or_imp, forall_eq, forall_const, cond_true, cond_false, decide_true, decide_false, true_imp_iff, implies_true, Int.cast_ofNat_Int, forall_eq']
  have hb := txtQ_len hr
  have a1 := h5 (txtQ r) (by omega)
  have a2 := h4 r
  have a3 := h5 s (by omega)
  have a4 := h6 s (by omega)
  have hcs := rp_prs s (fun q h1 h2 => vld_rtok h2)
  refine ⟨fun hv => ?_, fun hv => ?_⟩
  · have hv' : vldR r = false := by revert hv; cases vldR r <;> simp
    have ht : txtQ r = [] := by unfold txtQ; rw [hv']; rfl
    rw [ht]
    refine ⟨fun h => by simp [strB] at h, fun _ => ?_⟩
    refine callK_ro (a3) ?_ ?_
    · simp only [↓EVP0, EVQ0, EVQ1, EVQ2, EVQ3, EVQ4, EVA, EVK, EVFR, ↓reduceIte, Nat.reduceEqDiff, Nat.reduceAdd, Nat.reduceSub, Nat.reduceMul, Nat.reduceLT, Nat.reduceLeDiff, reduceCtorEq, Int.reduceToNat, Int.reduceLT, Int.reduceLE, Int.reduceAdd, Int.reduceSub, Int.reduceMul, Int.reduceNeg, Int.reduceEq, Nat.reduceMod, forall_eq_or_imp, forall_eq, forall_const, cond_true, cond_false, decide_true, decide_false, true_imp_iff, implies_true, Int.cast_ofNat_Int, forall_eq']
    simp only [↓EVP0, EVQ0, EVQ1, EVQ2, EVQ3, EVQ4, EVA, EVK, EVFR, ↓reduceIte, Nat.reduceEqDiff, Nat.reduceAdd, Nat.reduceSub, Nat.reduceMul, Nat.reduceLT, Nat.reduceLeDiff, reduceCtorEq, Int.reduceToNat, Int.reduceLT, Int.reduceLE, Int.reduceAdd, Int.reduceSub, Int.reduceMul, Int.reduceNeg, Int.reduceEq, Nat.reduceMod, forall_eq_or_imp, forall_eq, forall_const, cond_true, cond_false, decide_true, decide_false, true_imp_iff, implies_true, Int.cast_ofNat_Int, forall_eq']
    refine callK_ro (a4) ?_ ?_
    · simp only [↓EVP0, EVQ0, EVQ1, EVQ2, EVQ3, EVQ4, EVA, EVK, EVFR, ↓reduceIte, Nat.reduceEqDiff, Nat.reduceAdd, Nat.reduceSub, Nat.reduceMul, Nat.reduceLT, Nat.reduceLeDiff, reduceCtorEq, Int.reduceToNat, Int.reduceLT, Int.reduceLE, Int.reduceAdd, Int.reduceSub, Int.reduceMul, Int.reduceNeg, Int.reduceEq, Nat.reduceMod, forall_eq_or_imp, forall_eq, forall_const, cond_true, cond_false, decide_true, decide_false, true_imp_iff, implies_true, Int.cast_ofNat_Int, forall_eq']
    simp only [↓EVP0, EVQ0, EVQ1, EVQ2, EVQ3, EVQ4, EVA, EVK, EVFR, ↓reduceIte, Nat.reduceEqDiff, Nat.reduceAdd, Nat.reduceSub, Nat.reduceMul, Nat.reduceLT, Nat.reduceLeDiff, reduceCtorEq, Int.reduceToNat, Int.reduceLT, Int.reduceLE, Int.reduceAdd, Int.reduceSub, Int.reduceMul, Int.reduceNeg, Int.reduceEq, Nat.reduceMod, forall_eq_or_imp, forall_eq, forall_const, cond_true, cond_false, decide_true, decide_false, true_imp_iff, implies_true, Int.cast_ofNat_Int, forall_eq']
    rcases hcs with ⟨q, e1, e2⟩ | ⟨e1, e2⟩
    · rw [e1, e2]
      have a5 := h4 q
      refine ⟨fun h => by simp at h, fun _ => ?_⟩
      simp only [Option.getD_some, Option.isSome_some]
      (first | refine lopsQ_gcall ?_ | refine lopsQ_gecl ?_); (simp only [↓EVP0, EVQ0, EVQ1, EVQ2, EVQ3, EVQ4, EVA, EVK, EVFR, ↓reduceIte, Nat.reduceEqDiff, Nat.reduceAdd, Nat.reduceSub, Nat.reduceMul, Nat.reduceLT, Nat.reduceLeDiff, reduceCtorEq, Int.reduceToNat, Int.reduceLT, Int.reduceLE, Int.reduceAdd, Int.reduceSub, Int.reduceMul, Int.reduceNeg, Int.reduceEq, Nat.reduceMod, forall_eq_or_imp, forall_eq, forall_const, cond_true, cond_false, decide_true, decide_false, true_imp_iff, implies_true, Int.cast_ofNat_Int, forall_eq'])
      first | refine gCallK_ro _ (fun _ => a5) (fun _ => ?_) ?_ | refine geCallK_ro _ (fun _ => a5) (fun _ => ?_) ?_
      · simp only [↓EVP0, EVQ0, EVQ1, EVQ2, EVQ3, EVQ4, EVA, EVK, EVFR, ↓reduceIte, Nat.reduceEqDiff, Nat.reduceAdd, Nat.reduceSub, Nat.reduceMul, Nat.reduceLT, Nat.reduceLeDiff, reduceCtorEq, Int.reduceToNat, Int.reduceLT, Int.reduceLE, Int.reduceAdd, Int.reduceSub, Int.reduceMul, Int.reduceNeg, Int.reduceEq, Nat.reduceMod, forall_eq_or_imp, forall_eq, forall_const, cond_true, cond_false, decide_true, decide_false, true_imp_iff, implies_true, Int.cast_ofNat_Int, forall_eq']
      simp only [↓EVP0, EVQ0, EVQ1, EVQ2, EVQ3, EVQ4, EVA, EVK, EVFR, ↓reduceIte, Nat.reduceEqDiff, Nat.reduceAdd, Nat.reduceSub, Nat.reduceMul, Nat.reduceLT, Nat.reduceLeDiff, reduceCtorEq, Int.reduceToNat, Int.reduceLT, Int.reduceLE, Int.reduceAdd, Int.reduceSub, Int.reduceMul, Int.reduceNeg, Int.reduceEq, Nat.reduceMod, forall_eq_or_imp, forall_eq, forall_const, cond_true, cond_false, decide_true, decide_false, true_imp_iff, implies_true, Int.cast_ofNat_Int, forall_eq']
      simp
    · rw [e1, e2]
      refine ⟨fun _ => rfl, fun h => by simp at h⟩
  · have hv' : vldR r = true := by revert hv; cases vldR r <;> simp
    have htf := txt_full hv'
    have hp : prsQ (txtQ r) = (fullR r, 0) := by rw [← htf.1]; exact prs_txt (vld_rtok htf.2.1) htf.2.1 htf.2.2
    rw [hp] at a1
    refine callK_ro (a1) ?_ ?_
    · simp only [↓EVP0, EVQ0, EVQ1, EVQ2, EVQ3, EVQ4, EVA, EVK, EVFR, ↓reduceIte, Nat.reduceEqDiff, Nat.reduceAdd, Nat.reduceSub, Nat.reduceMul, Nat.reduceLT, Nat.reduceLeDiff, reduceCtorEq, Int.reduceToNat, Int.reduceLT, Int.reduceLE, Int.reduceAdd, Int.reduceSub, Int.reduceMul, Int.reduceNeg, Int.reduceEq, Nat.reduceMod, forall_eq_or_imp, forall_eq, forall_const, cond_true, cond_false, decide_true, decide_false, true_imp_iff, implies_true, Int.cast_ofNat_Int, forall_eq']
    simp only [↓EVP0, EVQ0, EVQ1, EVQ2, EVQ3, EVQ4, EVA, EVK, EVFR, ↓reduceIte, Nat.reduceEqDiff, Nat.reduceAdd, Nat.reduceSub, Nat.reduceMul, Nat.reduceLT, Nat.reduceLeDiff, reduceCtorEq, Int.reduceToNat, Int.reduceLT, Int.reduceLE, Int.reduceAdd, Int.reduceSub, Int.reduceMul, Int.reduceNeg, Int.reduceEq, Nat.reduceMod, forall_eq_or_imp, forall_eq, forall_const, cond_true, cond_false, decide_true, decide_false, true_imp_iff, implies_true, Int.cast_ofNat_Int, forall_eq']
    refine callK_ro (a2) ?_ ?_
    · simp only [↓EVP0, EVQ0, EVQ1, EVQ2, EVQ3, EVQ4, EVA, EVK, EVFR, ↓reduceIte, Nat.reduceEqDiff, Nat.reduceAdd, Nat.reduceSub, Nat.reduceMul, Nat.reduceLT, Nat.reduceLeDiff, reduceCtorEq, Int.reduceToNat, Int.reduceLT, Int.reduceLE, Int.reduceAdd, Int.reduceSub, Int.reduceMul, Int.reduceNeg, Int.reduceEq, Nat.reduceMod, forall_eq_or_imp, forall_eq, forall_const, cond_true, cond_false, decide_true, decide_false, true_imp_iff, implies_true, Int.cast_ofNat_Int, forall_eq']
    simp only [↓EVP0, EVQ0, EVQ1, EVQ2, EVQ3, EVQ4, EVA, EVK, EVFR, ↓reduceIte, Nat.reduceEqDiff, Nat.reduceAdd, Nat.reduceSub, Nat.reduceMul, Nat.reduceLT, Nat.reduceLeDiff, reduceCtorEq, Int.reduceToNat, Int.reduceLT, Int.reduceLE, Int.reduceAdd, Int.reduceSub, Int.reduceMul, Int.reduceNeg, Int.reduceEq, Nat.reduceMod, forall_eq_or_imp, forall_eq, forall_const, cond_true, cond_false, decide_true, decide_false, true_imp_iff, implies_true, Int.cast_ofNat_Int, forall_eq']
    have a6 := h8 r hv'
    refine callK_ro (a6) ?_ ?_
    · simp only [↓EVP0, EVQ0, EVQ1, EVQ2, EVQ3, EVQ4, EVA, EVK, EVFR, ↓reduceIte, Nat.reduceEqDiff, Nat.reduceAdd, Nat.reduceSub, Nat.reduceMul, Nat.reduceLT, Nat.reduceLeDiff, reduceCtorEq, Int.reduceToNat, Int.reduceLT, Int.reduceLE, Int.reduceAdd, Int.reduceSub, Int.reduceMul, Int.reduceNeg, Int.reduceEq, Nat.reduceMod, forall_eq_or_imp, forall_eq, forall_const, cond_true, cond_false, decide_true, decide_false, true_imp_iff, implies_true, Int.cast_ofNat_Int, forall_eq']
    simp only [↓EVP0, EVQ0, EVQ1, EVQ2, EVQ3, EVQ4, EVA, EVK, EVFR, ↓reduceIte, Nat.reduceEqDiff, Nat.reduceAdd, Nat.reduceSub, Nat.reduceMul, Nat.reduceLT, Nat.reduceLeDiff, reduceCtorEq, Int.reduceToNat, Int.reduceLT, Int.reduceLE, Int.reduceAdd, Int.reduceSub, Int.reduceMul, Int.reduceNeg, Int.reduceEq, Nat.reduceMod, forall_eq_or_imp, forall_eq, forall_const, cond_true, cond_false, decide_true, decide_false, true_imp_iff, implies_true, Int.cast_ofNat_Int, forall_eq']
    have a7 := h7 (fullR r) r (vld_rtok htf.2.1) hr
    rw [cmp_full hv'] at a7
    (refine lops_ge_imp ?_; simp only [↓EVP0, EVQ0, EVQ1, EVQ2, EVQ3, EVQ4, EVA, EVK, EVFR, ↓reduceIte, Nat.reduceEqDiff, Nat.reduceAdd, Nat.reduceSub, Nat.reduceMul, Nat.reduceLT, Nat.reduceLeDiff, reduceCtorEq, Int.reduceToNat, Int.reduceLT, Int.reduceLE, Int.reduceAdd, Int.reduceSub, Int.reduceMul, Int.reduceNeg, Int.reduceEq, Nat.reduceMod, forall_eq_or_imp, forall_eq, forall_const, cond_true, cond_false, decide_true, decide_false, true_imp_iff, implies_true, Int.cast_ofNat_Int, forall_eq'])
    refine gCallK_ro _ (fun _ => a7) (fun _ => ?_) ?_
    · simp only [↓EVP0, EVQ0, EVQ1, EVQ2, EVQ3, EVQ4, EVA, EVK, EVFR, ↓reduceIte, Nat.reduceEqDiff, Nat.reduceAdd, Nat.reduceSub, Nat.reduceMul, Nat.reduceLT, Nat.reduceLeDiff, reduceCtorEq, Int.reduceToNat, Int.reduceLT, Int.reduceLE, Int.reduceAdd, Int.reduceSub, Int.reduceMul, Int.reduceNeg, Int.reduceEq, Nat.reduceMod, forall_eq_or_imp, forall_eq, forall_const, cond_true, cond_false, decide_true, decide_false, true_imp_iff, implies_true, Int.cast_ofNat_Int, forall_eq']
    simp only [↓EVP0, EVQ0, EVQ1, EVQ2, EVQ3, EVQ4, EVA, EVK, EVFR, ↓reduceIte, Nat.reduceEqDiff, Nat.reduceAdd, Nat.reduceSub, Nat.reduceMul, Nat.reduceLT, Nat.reduceLeDiff, reduceCtorEq, Int.reduceToNat, Int.reduceLT, Int.reduceLE, Int.reduceAdd, Int.reduceSub, Int.reduceMul, Int.reduceNeg, Int.reduceEq, Nat.reduceMod, forall_eq_or_imp, forall_eq, forall_const, cond_true, cond_false, decide_true, decide_false, true_imp_iff, implies_true, Int.cast_ofNat_Int, forall_eq']
    refine ⟨fun h => by have := of_decide_eq_true h; omega, fun _ => ?_⟩
    refine callK_ro (a3) ?_ ?_
    · simp only [↓EVP0, EVQ0, EVQ1, EVQ2, EVQ3, EVQ4, EVA, EVK, EVFR, ↓reduceIte, Nat.reduceEqDiff, Nat.reduceAdd, Nat.reduceSub, Nat.reduceMul, Nat.reduceLT, Nat.reduceLeDiff, reduceCtorEq, Int.reduceToNat, Int.reduceLT, Int.reduceLE, Int.reduceAdd, Int.reduceSub, Int.reduceMul, Int.reduceNeg, Int.reduceEq, Nat.reduceMod, forall_eq_or_imp, forall_eq, forall_const, cond_true, cond_false, decide_true, decide_false, true_imp_iff, implies_true, Int.cast_ofNat_Int, forall_eq']
    simp only [↓EVP0, EVQ0, EVQ1, EVQ2, EVQ3, EVQ4, EVA, EVK, EVFR, ↓reduceIte, Nat.reduceEqDiff, Nat.reduceAdd, Nat.reduceSub, Nat.reduceMul, Nat.reduceLT, Nat.reduceLeDiff, reduceCtorEq, Int.reduceToNat, Int.reduceLT, Int.reduceLE, Int.reduceAdd, Int.reduceSub, Int.reduceMul, Int.reduceNeg, Int.reduceEq, Nat.reduceMod, forall_eq_or_imp, forall_eq, forall_const, cond_true, cond_false, decide_true, decide_false, true_imp_iff, implies_true, Int.cast_ofNat_Int, forall_eq']
    refine callK_ro (a4) ?_ ?_
    · simp only [↓EVP0, EVQ0, EVQ1, EVQ2, EVQ3, EVQ4, EVA, EVK, EVFR, ↓reduceIte, Nat.reduceEqDiff, Nat.reduceAdd, Nat.reduceSub, Nat.reduceMul, Nat.reduceLT, Nat.reduceLeDiff, reduceCtorEq, Int.reduceToNat, Int.reduceLT, Int.reduceLE, Int.reduceAdd, Int.reduceSub, Int.reduceMul, Int.reduceNeg, Int.reduceEq, Nat.reduceMod, forall_eq_or_imp, forall_eq, forall_const, cond_true, cond_false, decide_true, decide_false, true_imp_iff, implies_true, Int.cast_ofNat_Int, forall_eq']
    simp only [↓EVP0, EVQ0, EVQ1, EVQ2, EVQ3, EVQ4, EVA, EVK, EVFR, ↓reduceIte, Nat.reduceEqDiff, Nat.reduceAdd, Nat.reduceSub, Nat.reduceMul, Nat.reduceLT, Nat.reduceLeDiff, reduceCtorEq, Int.reduceToNat, Int.reduceLT, Int.reduceLE, Int.reduceAdd, Int.reduceSub, Int.reduceMul, Int.reduceNeg, Int.reduceEq, Nat.reduceMod, forall_eq_or_imp, forall_eq, forall_const, cond_true, cond_false, decide_true, decide_false, true_imp_iff, implies_true, Int.cast_ofNat_Int, forall_eq']
    rcases hcs with ⟨q, e1, e2⟩ | ⟨e1, e2⟩
    · rw [e1, e2]
      have a5 := h4 q
      refine ⟨fun h => by simp at h, fun _ => ?_⟩
      simp only [Option.getD_some, Option.isSome_some]
      (first | refine lopsQ_gcall ?_ | refine lopsQ_gecl ?_); (simp only [↓EVP0, EVQ0, EVQ1, EVQ2, EVQ3, EVQ4, EVA, EVK, EVFR, ↓reduceIte, Nat.reduceEqDiff, Nat.reduceAdd, Nat.reduceSub, Nat.reduceMul, Nat.reduceLT, Nat.reduceLeDiff, reduceCtorEq, Int.reduceToNat, Int.reduceLT, Int.reduceLE, Int.reduceAdd, Int.reduceSub, Int.reduceMul, Int.reduceNeg, Int.reduceEq, Nat.reduceMod, forall_eq_or_imp, forall_eq, forall_const, cond_true, cond_false, decide_true, decide_false, true_imp_iff, implies_true, Int.cast_ofNat_Int, forall_eq'])
      first | refine gCallK_ro _ (fun _ => a5) (fun _ => ?_) ?_ | refine geCallK_ro _ (fun _ => a5) (fun _ => ?_) ?_
      · simp only [↓EVP0, EVQ0, EVQ1, EVQ2, EVQ3, EVQ4, EVA, EVK, EVFR, ↓reduceIte, Nat.reduceEqDiff, Nat.reduceAdd, Nat.reduceSub, Nat.reduceMul, Nat.reduceLT, Nat.reduceLeDiff, reduceCtorEq, Int.reduceToNat, Int.reduceLT, Int.reduceLE, Int.reduceAdd, Int.reduceSub, Int.reduceMul, Int.reduceNeg, Int.reduceEq, Nat.reduceMod, forall_eq_or_imp, forall_eq, forall_const, cond_true, cond_false, decide_true, decide_false, true_imp_iff, implies_true, Int.cast_ofNat_Int, forall_eq']
      simp only [↓EVP0, EVQ0, EVQ1, EVQ2, EVQ3, EVQ4, EVA, EVK, EVFR, ↓reduceIte, Nat.reduceEqDiff, Nat.reduceAdd, Nat.reduceSub, Nat.reduceMul, Nat.reduceLT, Nat.reduceLeDiff, reduceCtorEq, Int.reduceToNat, Int.reduceLT, Int.reduceLE, Int.reduceAdd, Int.reduceSub, Int.reduceMul, Int.reduceNeg, Int.reduceEq, Nat.reduceMod, forall_eq_or_imp, forall_eq, forall_const, cond_true, cond_false, decide_true, decide_false, true_imp_iff, implies_true, Int.cast_ofNat_Int, forall_eq']
      simp
    · rw [e1, e2]
      refine ⟨fun _ => rfl, fun h => by simp at h⟩
end Go.Proofs.YtfhifkcbdpgomaaDoor
namespace Go.Proofs.YtfhifkcbdpgomaaDoor
set_option linter.unusedSimpArgs false
set_option linter.unusedVariables false
open Go.RowKit
set_option maxRecDepth 100000

theorem fit_strQ {d : Nat} {t : TypeId} (ht : Tryd.prog.underlying t = some .string) {ls : List LV} (h : fitT Tryd.prog d t ls) : ∃ s : ByteArray, ls = [.sc (.string s)] ∧ s.size ≤ maxLen := by
  cases d with
  | zero => exact h.elim
  | succ d => unfold fitT at h; rw [ht] at h; exact h
theorem arg_str {lv : LV} (h : fitA Tryd.prog 9 lv) : ∃ s : ByteArray, lv = .sc (.string s) ∧ s.size ≤ maxLen := by
  have h0 := arg_cell (by kernel_rfl) h
  obtain ⟨s, h1, h2⟩ := fit_strQ Tryd.underlying9 h0
  simp only [List.cons.injEq, and_true] at h1
  exact ⟨s, h1, h2⟩
theorem ev_lawTextsB (r : Rt) (hr : RtOk r) (s : ByteArray) : Ev Tryd.prog 3 [ratV r, .sc (.string s)] (.sc (.bool true)) := by
  have h := ev_lawTexts r hr s.data.toList
  rw [strB_of] at h
  exact h
end Go.Proofs.YtfhifkcbdpgomaaDoor
namespace Go.Proofs.YtfhifkcbdpgomaaDoor
open Go.RowKit Go.ChangeShapes

theorem star19 : "*" ++ "errors.errorString" = "*errors.errorString" := by decide
theorem row19 (u : TypeId) (h : Tryd.prog.typeName? 3 u = some "*errors.errorString") : u = 101 :=
  typeName_ptr_named (nm := "errors.errorString") (by rw [star19]; kernel_rfl) (by kernel_rfl) (by decide) u (by rw [star19]; exact h)
theorem ifc_of_laid {n : String} {text : List UInt8} {r : List (String × DataW Unit)} {W : World} {g : Nat}
    (h : laidMet Tryd.prog ((n, .iface "*errors.errorString" (.ptr (.agg [.lit (.string text)]))) :: r) W) (hg : Tryd.prog.globalNamed n = some g) (ht : (Tryd.prog.globals[g]?).map (·.type) = some 46) : IfcAt W g := by
  obtain ⟨a, s, hv, _, _, _⟩ := laid_sentinel h hg ht Tryd.underlying46 row19 Tryd.underlying101 Tryd.underlying103 rfl rfl Tryd.underlying9 (by kernel_rfl) (by kernel_rfl)
  exact ⟨_, World.var?_cell hg hv 0, .inr ⟨_, _, rfl⟩⟩
theorem gx_mk {a b : String × DataW Unit} {rest : List (String × DataW Unit)} {W : World} (h : laidMet Tryd.prog (a :: b :: ("internal/strconv.uint64pow10", Rows.laid_internal_strconv_uint64pow10) :: rest) W) (hs : W.ShapedOpen Tryd.prog) (h2 : IfcAt W 3) (h3 : IfcAt W 4) : GX W :=
  ⟨Lib.tabIs_of_head (g := 5) (t := 91) (e := 40) (n := 20) (by kernel_rfl) (by kernel_rfl) (by kernel_rfl) (by kernel_rfl) (by kernel_rfl) (by kernel_rfl) (show laidMet Tryd.prog (("internal/strconv.uint64pow10", Lib.tabData .u64 Lib.pow10Tab) :: rest) W from (h.tail).tail),
    cell_of_shapedOpen_int (zero := #[.int .i64 0]) (t := 3) hs (of_decide_eq_true (by kernel_rfl)) (by kernel_rfl) rfl (by kernel_rfl) (by kernel_rfl) Tryd.underlying3, h2, h3⟩
theorem gx_of2 {a b : String × DataW Unit} {rest : List (String × DataW Unit)} {W : World} (h : laidMetH Tryd.prog (a :: b :: ("internal/strconv.uint64pow10", Rows.laid_internal_strconv_uint64pow10) :: ("strconv.ErrRange", Rows.laid_strconv_ErrRange) :: ("strconv.ErrSyntax", Rows.laid_strconv_ErrSyntax) :: rest) W)
    (hp : ((a :: b :: ("internal/strconv.uint64pow10", Rows.laid_internal_strconv_uint64pow10) :: ("strconv.ErrRange", Rows.laid_strconv_ErrRange) :: ("strconv.ErrSyntax", Rows.laid_strconv_ErrSyntax) :: rest).all fun x => x.2.handleName?.isNone) = true) (hs : W.ShapedOpen Tryd.prog) : GX W := by
  rw [MakeChecks.laidMetH_plain _ _ _ hp] at h
  have h3 := ((h.tail).tail).tail
  exact gx_mk h hs (ifc_of_laid h3.tail (by kernel_rfl) (by kernel_rfl)) (ifc_of_laid h3 (by kernel_rfl) (by kernel_rfl))
end Go.Proofs.YtfhifkcbdpgomaaDoor
