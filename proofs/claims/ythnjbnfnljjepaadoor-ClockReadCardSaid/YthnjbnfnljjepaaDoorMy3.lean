/-
  DERIVED: THE SHELF's CONTRACTS AT THIS DUMP, IN PLAIN WORDS (tools/lay-plain.mjs out of 'YthnjbnfnljjepaaDoorShf.lean', which tools/lay-shelf.mjs wrote): THE SAME DECLARATIONS UNDER THE SAME NAMES: 'import', 'namespace', 'open', 'def', 'theorem' AND NOTHING ELSE: no command of the shelf's: FOR A HAND-IN. Each laying: the table of numbers ('.._ren') and one theorem, a field a fact of the dump's own or the kernel's comparison; each contract: ONE APPLICATION.
-/
import Derived.Test.YthnjbnfnljjepaaDoorMy2
import Derived.Shelf.Strings.SlTrimAscii
import Derived.Shelf.Strings.Builder1
import Derived.Shelf.Strings.Builder2
import Derived.Shelf.Strings.OnBuilder
import Derived.Shelf.Strings.Trim
import Derived.Shelf.Small.Utf8
import Derived.Shelf.Small.Strs
import Derived.Shelf.Strconv.Atoi
import Derived.Shelf.Strconv.Itoa0
import Derived.Shelf.Strconv.Itoa1
import Derived.Shelf.LaysM
import Derived.Shelf.Strconv.Itoa2
import Derived.Shelf.Strconv.Itoa3
import Derived.Shelf.Strconv.AtoiErrFast
import Derived.Shelf.Strconv.ParseIntEmpty
import Derived.Shelf.Strconv.AtoiFail
import Derived.Shelf.Strconv.Clone
import Derived.Shelf.Strconv.SyntaxError
import Derived.Shelf.LaysC
import Derived.Shelf.Strconv.ToError
import Derived.Shelf.Strconv.Lower
import Derived.Shelf.Strconv.ParseUint10
import Derived.Shelf.Strconv.ParseUint10Empty
import Derived.Shelf.Strconv.ParseUint10Any
import Derived.Shelf.Strconv.ParseInt10
import Derived.Shelf.Strconv.AtoiLong
import Derived.Shelf.Strconv.AtoiInnerAll
import Derived.Shelf.Strconv.RangeError
import Derived.Shelf.Strconv.ToErrorRange
import Derived.Shelf.Strconv.AtoiAll
import Derived.Shelf.Strconv.ErrVarAll
import Derived.Shelf.Strings.Search1
import Derived.Shelf.Strings.Fields
import Derived.Shelf.Unicode.Latin
import Derived.Shelf.Strings.Runes
import Derived.Shelf.Strings.AsciiSet
import Derived.Shelf.Unicode.DecodeSlow
import Derived.Shelf.Unicode.Is16White
import Derived.Shelf.Unicode.IsSpaceAny
import Derived.Shelf.Unicode.Is16WhiteD
import Derived.Shelf.Unicode.IsSpaceAnyD
import Derived.Shelf.Strings.FieldsAny
import Derived.Shelf.Strings.FieldsFuncAny
import Derived.Shelf.Unicode.Is16Any
import Derived.Shelf.Unicode.Is32Any
import Derived.Shelf.Unicode.ExclAny
import Derived.Test.YthnjbnfnljjepaaDoorProg
import Derived.OpenShut
import Derived.ProofKit
import Derived.Deep.Slices
import Derived.Deep.Fields
import Derived.ChangeSame
import Derived.Lib.LaidU8
import Derived.Lib.SmallJoins
import Derived.Lib.AppendIntMem
import Derived.Lib.ItoaLen
import Derived.Lib.JoinLaws
import Derived.Lib.ItoaMem
import Derived.Lib.AtoiAllCases
import Derived.Lib.TrimAscii
section
namespace Go.Proofs
open Go.Shelf
def Tryd.lays156_ren : Go.Shelf.Ren := ⟨fun | 156 => 27 | 165 => 34 | 166 => 35 | 169 => 36 | 240 => 49 | 241 => 50 | 276 => 65 | 277 => 66 | n => n, fun | 31 => 38 | 9 => 9 | 3 => 3 | 4 => 4 | 0 => 0 | 20 => 20 | 72 => 52 | 76 => 46 | 70 => 49 | 37 => 50 | 75 => 45 | 127 => 68 | 164 => 90 | 5 => 5 | 80 => 54 | n => n, fun | n => n⟩
theorem Tryd.lays156 : Go.Proofs.Lays.n156 Tryd.prog Tryd.lays156_ren := {
  mixed := by kernel_rfl
  f156 := Tryd.func27.trans (congrArg some (by kernel_rfl))
  f165 := Tryd.func34.trans (congrArg some (by kernel_rfl))
  f166 := Tryd.func35.trans (congrArg some (by kernel_rfl))
  f169 := Tryd.func36.trans (congrArg some (by kernel_rfl))
  f240 := Tryd.func49.trans (congrArg some (by kernel_rfl))
  f241 := Tryd.func50.trans (congrArg some (by kernel_rfl))
  f276 := Tryd.func65.trans (congrArg some (by kernel_rfl))
  f277 := Tryd.func66.trans (congrArg some (by kernel_rfl))
  t0 := Tryd.underlying0
  a0 := Tryd.isAgg0
  z0 := Tryd.sizeOf0
  v0 := Tryd.zeroValue0
  t3 := Tryd.underlying3
  a3 := Tryd.isAgg3
  z3 := Tryd.sizeOf3
  v3 := Tryd.zeroValue3
  t4 := Tryd.underlying4
  a4 := Tryd.isAgg4
  z4 := Tryd.sizeOf4
  v4 := Tryd.zeroValue4
  t9 := Tryd.underlying9
  a9 := Tryd.isAgg9
  z9 := Tryd.sizeOf9
  v9 := Tryd.zeroValue9
  t20 := Tryd.underlying20
  a20 := Tryd.isAgg20
  z20 := Tryd.sizeOf20
  v20 := Tryd.zeroValue20
  t31 := Tryd.underlying38
  a31 := Tryd.isAgg38
  z31 := Tryd.sizeOf38
  v31 := Tryd.zeroValue38
  t37 := Tryd.underlying50
  a37 := Tryd.isAgg50
  z37 := Tryd.sizeOf50
  v37 := Tryd.zeroValue50
  t70 := Tryd.underlying49
  a70 := Tryd.isAgg49
  z70 := Tryd.sizeOf49
  v70 := Tryd.zeroValue49
  t72 := Tryd.underlying52
  a72 := Tryd.isAgg52
  z72 := Tryd.sizeOf52
  v72 := Tryd.zeroValue52
  t75 := Tryd.underlying45
  a75 := Tryd.isAgg45
  z75 := Tryd.sizeOf45
  v75 := Tryd.zeroValue45
  t76 := Tryd.underlying46
  a76 := Tryd.isAgg46
  z76 := Tryd.sizeOf46
  v76 := Tryd.zeroValue46
  t127 := Tryd.underlying68
  a127 := Tryd.isAgg68
  z127 := Tryd.sizeOf68
  v127 := Tryd.zeroValue68
  t164 := Tryd.underlying90
  a164 := Tryd.isAgg90
  z164 := Tryd.sizeOf90
  v164 := Tryd.zeroValue90 }
theorem Tryd.Builder_Extra_156 : Builder.Extra Tryd.prog Tryd.lays156_ren := {
  sizeBuilder := by kernel_rfl
  liesBuilder := by kernel_rfl
  t5 := Tryd.underlying5
  a5 := Tryd.isAgg5
  z5 := Tryd.sizeOf5
  v5 := Tryd.zeroValue5
  infoByte := by kernel_rfl
  cellsByte := by kernel_rfl
  sizeByte := by kernel_rfl
  neB5 := by decide }
open Go.RowKit in
/-- No element: the empty string; the world is as it was. (Whatever the slice's address and capacity: a nil slice too.) (LAID: no walk: one application.) -/
theorem Tryd.strings_Join_none (a : Option Addr) (c : Nat) (sep : ByteArray) (w : World) :
    Calls Tryd.prog 27 #[.slice a 0 c, .string sep] w fun e w' => e = .returned (.string ⟨#[]⟩) ∧ w' = w := Any.strings_Join_none Tryd.lays156 Tryd.Builder_Extra_156 a c sep w
open Go.RowKit in
/-- strings.Join: "Join concatenates the elements of its first argument to create a single string. The separator string sep is placed between elements in the resulting string.": HOWEVER MANY ELEMENTS. Below the heap's end the world is as it was. (LAID: no walk: one application.) -/
theorem Tryd.strings_Join (bk o c : Nat) (xs : List ByteArray) (sep : ByteArray) (w : World) (hcells : ∀ (j : Nat) x, xs[j]? = some x → w.cell? ⟨bk, o + j, none⟩ = some (.string x)) (hbk : bk < w.heap.size) (hN : xs.length ≤ 140737488355328) (hcap : xs.length ≤ c) (hlen : (Lib.join (xs.map (·.data.toList)) sep.data.toList).length ≤ 140737488355328) :
    Calls Tryd.prog 27 #[.slice (some ⟨bk, o, none⟩) xs.length c, .string sep] w fun e w' => e = .returned (.string ⟨(Lib.join (xs.map (·.data.toList)) sep.data.toList).toArray⟩) ∧ Below w.heap.size w w' := Any.strings_Join Tryd.lays156 Tryd.Builder_Extra_156 bk o c xs sep w hcells hbk hN hcap hlen
def Tryd.lays160_ren : Go.Shelf.Ren := ⟨fun | 160 => 29 | 232 => 40 | 231 => 39 | 227 => 41 | 234 => 43 | 233 => 42 | 236 => 45 | 235 => 44 | 228 => 52 | 271 => 55 | 151 => 54 | 197 => 53 | 120 => 71 | 152 => 70 | 260 => 69 | 137 => 80 | 119 => 81 | 224 => 82 | 225 => 83 | 217 => 88 | 266 => 89 | n => n, fun | 9 => 9 | 4 => 4 | 3 => 3 | 5 => 5 | 117 => 61 | 116 => 60 | 0 => 0 | 124 => 64 | 21 => 21 | 105 => 76 | 46 => 107 | 119 => 55 | 139 => 122 | 138 => 121 | n => n, fun | 3 => 6 | 4 => 7 | n => n⟩
theorem Tryd.lays160 : Go.Proofs.Lays.n160 Tryd.prog Tryd.lays160_ren := {
  mixed := by kernel_rfl
  f119 := Tryd.func81.trans (congrArg some (by kernel_rfl))
  f120 := Tryd.func71.trans (congrArg some (by kernel_rfl))
  f137 := Tryd.func80.trans (congrArg some (by kernel_rfl))
  f151 := Tryd.func54.trans (congrArg some (by kernel_rfl))
  f152 := Tryd.func70.trans (congrArg some (by kernel_rfl))
  f160 := Tryd.func29.trans (congrArg some (by kernel_rfl))
  f197 := Tryd.func53.trans (congrArg some (by kernel_rfl))
  f217 := Tryd.func88.trans (congrArg some (by kernel_rfl))
  f224 := Tryd.func82.trans (congrArg some (by kernel_rfl))
  f225 := Tryd.func83.trans (congrArg some (by kernel_rfl))
  f227 := Tryd.func41.trans (congrArg some (by kernel_rfl))
  f228 := Tryd.func52.trans (congrArg some (by kernel_rfl))
  f231 := Tryd.func39.trans (congrArg some (by kernel_rfl))
  f232 := Tryd.func40.trans (congrArg some (by kernel_rfl))
  f233 := Tryd.func42.trans (congrArg some (by kernel_rfl))
  f234 := Tryd.func43.trans (congrArg some (by kernel_rfl))
  f235 := Tryd.func44.trans (congrArg some (by kernel_rfl))
  f236 := Tryd.func45.trans (congrArg some (by kernel_rfl))
  f260 := Tryd.func69.trans (congrArg some (by kernel_rfl))
  f266 := Tryd.func89.trans (congrArg some (by kernel_rfl))
  f271 := Tryd.func55.trans (congrArg some (by kernel_rfl))
  t0 := Tryd.underlying0
  a0 := Tryd.isAgg0
  z0 := Tryd.sizeOf0
  v0 := Tryd.zeroValue0
  t3 := Tryd.underlying3
  a3 := Tryd.isAgg3
  z3 := Tryd.sizeOf3
  v3 := Tryd.zeroValue3
  t4 := Tryd.underlying4
  a4 := Tryd.isAgg4
  z4 := Tryd.sizeOf4
  v4 := Tryd.zeroValue4
  t5 := Tryd.underlying5
  a5 := Tryd.isAgg5
  z5 := Tryd.sizeOf5
  v5 := Tryd.zeroValue5
  t9 := Tryd.underlying9
  a9 := Tryd.isAgg9
  z9 := Tryd.sizeOf9
  v9 := Tryd.zeroValue9
  t21 := Tryd.underlying21
  a21 := Tryd.isAgg21
  z21 := Tryd.sizeOf21
  v21 := Tryd.zeroValue21
  t46 := Tryd.underlying107
  a46 := Tryd.isAgg107
  z46 := Tryd.sizeOf107
  v46 := Tryd.zeroValue107
  t105 := Tryd.underlying76
  a105 := Tryd.isAgg76
  z105 := Tryd.sizeOf76
  v105 := Tryd.zeroValue76
  t116 := Tryd.underlying60
  a116 := Tryd.isAgg60
  z116 := Tryd.sizeOf60
  t117 := Tryd.underlying61
  a117 := Tryd.isAgg61
  z117 := Tryd.sizeOf61
  v117 := Tryd.zeroValue61
  t119 := Tryd.underlying55
  a119 := Tryd.isAgg55
  z119 := Tryd.sizeOf55
  t124 := Tryd.underlying64
  a124 := Tryd.isAgg64
  z124 := Tryd.sizeOf64
  v124 := Tryd.zeroValue64
  t138 := Tryd.underlying121
  a138 := Tryd.isAgg121
  z138 := Tryd.sizeOf121
  v138 := Tryd.zeroValue121
  t139 := Tryd.underlying122
  a139 := Tryd.isAgg122
  z139 := Tryd.sizeOf122
  v139 := Tryd.zeroValue122
  g3 := by kernel_rfl
  g4 := by kernel_rfl }
def Tryd.laysM171_ren : Go.Shelf.Ren := ⟨fun | 171 => 26 | 243 => 33 | 246 => 48 | 283 => 61 | 284 => 62 | 285 => 63 | 286 => 64 | 129 => 76 | 317 => 75 | 318 => 77 | 319 => 78 | 320 => 79 | 337 => 86 | 338 => 87 | n => n, fun | 3 => 3 | 9 => 9 | 2 => 2 | 4 => 4 | 171 => 85 | 0 => 0 | 53 => 66 | 37 => 50 | 5 => 5 | 173 => 88 | 212 => 114 | 51 => 72 | 20 => 20 | 213 => 115 | 46 => 107 | 232 => 130 | 233 => 131 | n => n, fun | 17 => 4 | 18 => 8 | 19 => 9 | n => n⟩
theorem Tryd.laysM171 : Go.Proofs.LaysM.n171 Tryd.prog Tryd.laysM171_ren := {
  mixed := by kernel_rfl
  f129 := Tryd.func76.trans (congrArg some (by kernel_rfl))
  f171 := Tryd.func26.trans (congrArg some (by kernel_rfl))
  f243 := Tryd.func33.trans (congrArg some (by kernel_rfl))
  f246 := Tryd.func48.trans (congrArg some (by kernel_rfl))
  f283 := Tryd.func61.trans (congrArg some (by kernel_rfl))
  f284 := Tryd.func62.trans (congrArg some (by kernel_rfl))
  f285 := Tryd.func63.trans (congrArg some (by kernel_rfl))
  f286 := Tryd.func64.trans (congrArg some (by kernel_rfl))
  f317 := Tryd.func75.trans (congrArg some (by kernel_rfl))
  f318 := Tryd.func77.trans (congrArg some (by kernel_rfl))
  f319 := Tryd.func78.trans (congrArg some (by kernel_rfl))
  f320 := Tryd.func79.trans (congrArg some (by kernel_rfl))
  f337 := Tryd.func86.trans (congrArg some (by kernel_rfl))
  f338 := Tryd.func87.trans (congrArg some (by kernel_rfl))
  t0 := Tryd.underlying0
  a0 := Tryd.isAgg0
  z0 := Tryd.sizeOf0
  v0 := Tryd.zeroValue0
  t2 := Tryd.underlying2
  a2 := Tryd.isAgg2
  z2 := Tryd.sizeOf2
  v2 := Tryd.zeroValue2
  t3 := Tryd.underlying3
  a3 := Tryd.isAgg3
  z3 := Tryd.sizeOf3
  v3 := Tryd.zeroValue3
  t4 := Tryd.underlying4
  a4 := Tryd.isAgg4
  z4 := Tryd.sizeOf4
  v4 := Tryd.zeroValue4
  t5 := Tryd.underlying5
  a5 := Tryd.isAgg5
  z5 := Tryd.sizeOf5
  v5 := Tryd.zeroValue5
  t9 := Tryd.underlying9
  a9 := Tryd.isAgg9
  z9 := Tryd.sizeOf9
  v9 := Tryd.zeroValue9
  t20 := Tryd.underlying20
  a20 := Tryd.isAgg20
  z20 := Tryd.sizeOf20
  v20 := Tryd.zeroValue20
  t37 := Tryd.underlying50
  a37 := Tryd.isAgg50
  z37 := Tryd.sizeOf50
  v37 := Tryd.zeroValue50
  t46 := Tryd.underlying107
  a46 := Tryd.isAgg107
  z46 := Tryd.sizeOf107
  v46 := Tryd.zeroValue107
  t51 := Tryd.underlying72
  a51 := Tryd.isAgg72
  z51 := Tryd.sizeOf72
  v51 := Tryd.zeroValue72
  t53 := Tryd.underlying66
  a53 := Tryd.isAgg66
  z53 := Tryd.sizeOf66
  v53 := Tryd.zeroValue66
  t171 := Tryd.underlying85
  a171 := Tryd.isAgg85
  z171 := Tryd.sizeOf85
  v171 := Tryd.zeroValue85
  t173 := Tryd.underlying88
  a173 := Tryd.isAgg88
  z173 := Tryd.sizeOf88
  v173 := Tryd.zeroValue88
  t212 := Tryd.underlying114
  a212 := Tryd.isAgg114
  z212 := Tryd.sizeOf114
  v212 := Tryd.zeroValue114
  t213 := Tryd.underlying115
  a213 := Tryd.isAgg115
  z213 := Tryd.sizeOf115
  t232 := Tryd.underlying130
  a232 := Tryd.isAgg130
  z232 := Tryd.sizeOf130
  v232 := Tryd.zeroValue130
  t233 := Tryd.underlying131
  a233 := Tryd.isAgg131
  z233 := Tryd.sizeOf131
  v233 := Tryd.zeroValue131
  g17 := by kernel_rfl
  g18 := by kernel_rfl
  g19 := by kernel_rfl
  i0 := by kernel_rfl
  i2 := by kernel_rfl
  i3 := by kernel_rfl
  i4 := by kernel_rfl
  i5 := by kernel_rfl
  i9 := by kernel_rfl
  i20 := by kernel_rfl
  i37 := by kernel_rfl
  i46 := by kernel_rfl
  i51 := by kernel_rfl
  i53 := by kernel_rfl
  i171 := by kernel_rfl
  i173 := by kernel_rfl
  i212 := by kernel_rfl
  i232 := by kernel_rfl
  i233 := by kernel_rfl
  m17 := by kernel_rfl
  m18 := by kernel_rfl
  m19 := by kernel_rfl }
open Go.RowKit Go.Sort Go.Lib in
/-- strconv.Itoa: "Itoa is equivalent to FormatInt(int64(i), 10).": i's DECIMAL NUMERAL ('Lib.itoa': a '-' where i is negative, then the digits), FOR EVERY int. The world behind the call: the world before it, new blocks behind the heap (the library's 'var a [24]byte'), draws. (LAID: no walk: one application.) -/
theorem Tryd.strconv_Itoa (n : Int) (h0 : -9223372036854775808 ≤ n) (h1 : n ≤ 9223372036854775807) (w : World) (htab : Lib.TabIs Tryd.prog w "internal/strconv.uint64pow10" .u64 Lib.pow10Tab) :
    Calls Tryd.prog 26 #[.int .i64 n] w fun e w' => e = .returned (.string ⟨(Lib.itoa n).toArray⟩) ∧ ∃ k os, w' = grow (w.drewN k) os := Any.strconv_Itoa Tryd.laysM171 n h0 h1 w htab
def Tryd.laysC172_ren : Go.Shelf.Ren := ⟨fun | 172 => 30 | 244 => 46 | 245 => 47 | 247 => 56 | 279 => 57 | 280 => 58 | 281 => 59 | 282 => 60 | 287 => 72 | 316 => 73 | 171 => 26 | 205 => 74 | 321 => 84 | 322 => 85 | 243 => 33 | 246 => 48 | 283 => 61 | 284 => 62 | 285 => 63 | 286 => 64 | 129 => 76 | 317 => 75 | 318 => 77 | 319 => 78 | 320 => 79 | 337 => 86 | 338 => 87 | n => n, fun | 9 => 9 | 3 => 3 | 75 => 45 | 76 => 46 | 4 => 4 | 5 => 5 | 167 => 79 | 37 => 50 | 0 => 0 | 85 => 80 | 2 => 2 | 168 => 82 | 53 => 66 | 175 => 105 | 46 => 107 | 210 => 110 | 127 => 68 | 145 => 128 | 143 => 126 | 21 => 21 | 171 => 85 | 173 => 88 | 212 => 114 | 51 => 72 | 20 => 20 | 213 => 115 | 232 => 130 | 233 => 131 | 80 => 54 | n => n, fun | 15 => 2 | 16 => 3 | 17 => 4 | 18 => 8 | 19 => 9 | n => n⟩
theorem Tryd.laysC172 : Go.Proofs.LaysC.n172 Tryd.prog Tryd.laysC172_ren := {
  mixed := by kernel_rfl
  f129 := Tryd.func76.trans (congrArg some (by kernel_rfl))
  f171 := Tryd.func26.trans (congrArg some (by kernel_rfl))
  f172 := Tryd.func30.trans (congrArg some (by kernel_rfl))
  f205 := Tryd.func74.trans (congrArg some (by kernel_rfl))
  f243 := Tryd.func33.trans (congrArg some (by kernel_rfl))
  f244 := Tryd.func46.trans (congrArg some (by kernel_rfl))
  f245 := Tryd.func47.trans (congrArg some (by kernel_rfl))
  f246 := Tryd.func48.trans (congrArg some (by kernel_rfl))
  f247 := Tryd.func56.trans (congrArg some (by kernel_rfl))
  f279 := Tryd.func57.trans (congrArg some (by kernel_rfl))
  f280 := Tryd.func58.trans (congrArg some (by kernel_rfl))
  f281 := Tryd.func59.trans (congrArg some (by kernel_rfl))
  f282 := Tryd.func60.trans (congrArg some (by kernel_rfl))
  f283 := Tryd.func61.trans (congrArg some (by kernel_rfl))
  f284 := Tryd.func62.trans (congrArg some (by kernel_rfl))
  f285 := Tryd.func63.trans (congrArg some (by kernel_rfl))
  f286 := Tryd.func64.trans (congrArg some (by kernel_rfl))
  f287 := Tryd.func72.trans (congrArg some (by kernel_rfl))
  f316 := Tryd.func73.trans (congrArg some (by kernel_rfl))
  f317 := Tryd.func75.trans (congrArg some (by kernel_rfl))
  f318 := Tryd.func77.trans (congrArg some (by kernel_rfl))
  f319 := Tryd.func78.trans (congrArg some (by kernel_rfl))
  f320 := Tryd.func79.trans (congrArg some (by kernel_rfl))
  f321 := Tryd.func84.trans (congrArg some (by kernel_rfl))
  f322 := Tryd.func85.trans (congrArg some (by kernel_rfl))
  f337 := Tryd.func86.trans (congrArg some (by kernel_rfl))
  f338 := Tryd.func87.trans (congrArg some (by kernel_rfl))
  t0 := Tryd.underlying0
  a0 := Tryd.isAgg0
  z0 := Tryd.sizeOf0
  v0 := Tryd.zeroValue0
  t2 := Tryd.underlying2
  a2 := Tryd.isAgg2
  z2 := Tryd.sizeOf2
  v2 := Tryd.zeroValue2
  t3 := Tryd.underlying3
  a3 := Tryd.isAgg3
  z3 := Tryd.sizeOf3
  v3 := Tryd.zeroValue3
  t4 := Tryd.underlying4
  a4 := Tryd.isAgg4
  z4 := Tryd.sizeOf4
  v4 := Tryd.zeroValue4
  t5 := Tryd.underlying5
  a5 := Tryd.isAgg5
  z5 := Tryd.sizeOf5
  v5 := Tryd.zeroValue5
  t9 := Tryd.underlying9
  a9 := Tryd.isAgg9
  z9 := Tryd.sizeOf9
  v9 := Tryd.zeroValue9
  t20 := Tryd.underlying20
  a20 := Tryd.isAgg20
  z20 := Tryd.sizeOf20
  v20 := Tryd.zeroValue20
  t21 := Tryd.underlying21
  a21 := Tryd.isAgg21
  z21 := Tryd.sizeOf21
  v21 := Tryd.zeroValue21
  t37 := Tryd.underlying50
  a37 := Tryd.isAgg50
  z37 := Tryd.sizeOf50
  v37 := Tryd.zeroValue50
  t46 := Tryd.underlying107
  a46 := Tryd.isAgg107
  z46 := Tryd.sizeOf107
  v46 := Tryd.zeroValue107
  t51 := Tryd.underlying72
  a51 := Tryd.isAgg72
  z51 := Tryd.sizeOf72
  v51 := Tryd.zeroValue72
  t53 := Tryd.underlying66
  a53 := Tryd.isAgg66
  z53 := Tryd.sizeOf66
  v53 := Tryd.zeroValue66
  t75 := Tryd.underlying45
  a75 := Tryd.isAgg45
  z75 := Tryd.sizeOf45
  v75 := Tryd.zeroValue45
  t76 := Tryd.underlying46
  a76 := Tryd.isAgg46
  z76 := Tryd.sizeOf46
  v76 := Tryd.zeroValue46
  t85 := Tryd.underlying80
  a85 := Tryd.isAgg80
  z85 := Tryd.sizeOf80
  v85 := Tryd.zeroValue80
  t127 := Tryd.underlying68
  a127 := Tryd.isAgg68
  z127 := Tryd.sizeOf68
  v127 := Tryd.zeroValue68
  t143 := Tryd.underlying126
  a143 := Tryd.isAgg126
  z143 := Tryd.sizeOf126
  v143 := Tryd.zeroValue126
  t145 := Tryd.underlying128
  a145 := Tryd.isAgg128
  z145 := Tryd.sizeOf128
  v145 := Tryd.zeroValue128
  t167 := Tryd.underlying79
  a167 := Tryd.isAgg79
  z167 := Tryd.sizeOf79
  v167 := Tryd.zeroValue79
  t168 := Tryd.underlying82
  a168 := Tryd.isAgg82
  z168 := Tryd.sizeOf82
  v168 := Tryd.zeroValue82
  t171 := Tryd.underlying85
  a171 := Tryd.isAgg85
  z171 := Tryd.sizeOf85
  v171 := Tryd.zeroValue85
  t173 := Tryd.underlying88
  a173 := Tryd.isAgg88
  z173 := Tryd.sizeOf88
  v173 := Tryd.zeroValue88
  t175 := Tryd.underlying105
  a175 := Tryd.isAgg105
  z175 := Tryd.sizeOf105
  v175 := Tryd.zeroValue105
  t210 := Tryd.underlying110
  a210 := Tryd.isAgg110
  z210 := Tryd.sizeOf110
  v210 := Tryd.zeroValue110
  t212 := Tryd.underlying114
  a212 := Tryd.isAgg114
  z212 := Tryd.sizeOf114
  v212 := Tryd.zeroValue114
  t213 := Tryd.underlying115
  a213 := Tryd.isAgg115
  z213 := Tryd.sizeOf115
  t232 := Tryd.underlying130
  a232 := Tryd.isAgg130
  z232 := Tryd.sizeOf130
  v232 := Tryd.zeroValue130
  t233 := Tryd.underlying131
  a233 := Tryd.isAgg131
  z233 := Tryd.sizeOf131
  v233 := Tryd.zeroValue131
  g15 := by kernel_rfl
  g16 := by kernel_rfl
  g17 := by kernel_rfl
  g18 := by kernel_rfl
  g19 := by kernel_rfl
  t80 := Tryd.underlying54
  a80 := Tryd.isAgg54
  z80 := Tryd.sizeOf54
  v80 := Tryd.zeroValue54
  i0 := by kernel_rfl
  i2 := by kernel_rfl
  i3 := by kernel_rfl
  i4 := by kernel_rfl
  i5 := by kernel_rfl
  i9 := by kernel_rfl
  i20 := by kernel_rfl
  i21 := by kernel_rfl
  i37 := by kernel_rfl
  i46 := by kernel_rfl
  i51 := by kernel_rfl
  i53 := by kernel_rfl
  i75 := by kernel_rfl
  i76 := by kernel_rfl
  i80 := by kernel_rfl
  i85 := by kernel_rfl
  i127 := by kernel_rfl
  i143 := by kernel_rfl
  i145 := by kernel_rfl
  i167 := by kernel_rfl
  i168 := by kernel_rfl
  i171 := by kernel_rfl
  i173 := by kernel_rfl
  i175 := by kernel_rfl
  i210 := by kernel_rfl
  i212 := by kernel_rfl
  i232 := by kernel_rfl
  i233 := by kernel_rfl
  m15 := by kernel_rfl
  m16 := by kernel_rfl
  m17 := by kernel_rfl
  m18 := by kernel_rfl
  m19 := by kernel_rfl
  c0 := by kernel_rfl
  c2 := by kernel_rfl
  c3 := by kernel_rfl
  c4 := by kernel_rfl
  c5 := by kernel_rfl
  c9 := by kernel_rfl
  c20 := by kernel_rfl
  c21 := by kernel_rfl
  c37 := by kernel_rfl
  c46 := by kernel_rfl
  c51 := by kernel_rfl
  c53 := by kernel_rfl
  c75 := by kernel_rfl
  c76 := by kernel_rfl
  c80 := by kernel_rfl
  c85 := by kernel_rfl
  c127 := by kernel_rfl
  c143 := by kernel_rfl
  c145 := by kernel_rfl
  c167 := by kernel_rfl
  c168 := by kernel_rfl
  c171 := by kernel_rfl
  c173 := by kernel_rfl
  c175 := by kernel_rfl
  c210 := by kernel_rfl
  c212 := by kernel_rfl
  c213 := by kernel_rfl
  c232 := by kernel_rfl
  c233 := by kernel_rfl }
open Go.RowKit in
/-- strconv.Atoi, AT EVERY STRING THAT SPELLS AN int ('Lib.atoiAll .. = .ok v'; of whatever length: leading zeros count): v, AND NO ERROR. The world: as it was, or with the one new row that '[]byte(..)' lays. (LAID: no walk: one application.) -/
theorem Tryd.strconv_Atoi_ok (s : ByteArray) (hmax : s.size ≤ 9223372036854775806) (v : Int) (h : Lib.atoiAll s.data.toList = .ok v) (w : World) :
    Calls Tryd.prog 30 #[.string s] w fun e w' => e = .returned (.tuple #[.int .i64 v, .nilIface]) ∧ (w' = w ∨ ∃ t, w' = Lib.bytesWorld w 5 t) := Any.strconv_Atoi_ok Tryd.laysC172 s hmax v h w
open Go.RowKit in
theorem Tryd.strconv_Atoi_syntax_var (s : ByteArray) (hlim : s.size ≤ 281474976710656) (h : Lib.atoiAll s.data.toList = Lib.NumEnd.syntax) (tp : TypeId) (p : Value) (w : World) (hvar : w.var? Tryd.prog "strconv.ErrSyntax" = some #[.iface tp p]) :
    Calls Tryd.prog 30 #[.string s] w fun e w' => ∃ N, e = .returned (.tuple #[.int .i64 0, .iface 82 (.pointer (some ⟨N, 0, none⟩))]) ∧ w.heap.size ≤ N ∧ w'.heap[N]? = some (.cells #[.string ⟨#[65, 116, 111, 105]⟩, .string s, .iface tp p] 110 (0, 0)) ∧ Below w.heap.size w w' := Any.strconv_Atoi_syntax_var Tryd.laysC172 s hlim h tp p w hvar
open Go.RowKit in
theorem Tryd.strconv_Atoi_range_var (s : ByteArray) (hlim : s.size ≤ 281474976710656) (h : Lib.atoiAll s.data.toList = .range) (tp : TypeId) (p : Value) (w : World) (hvar : w.var? Tryd.prog "strconv.ErrRange" = some #[.iface tp p]) :
    Calls Tryd.prog 30 #[.string s] w fun e w' => ∃ N, e = .returned (.tuple #[.int .i64 (Lib.atoiSat s.data.toList), .iface 82 (.pointer (some ⟨N, 0, none⟩))]) ∧ w.heap.size ≤ N ∧ w'.heap[N]? = some (.cells #[.string ⟨#[65, 116, 111, 105]⟩, .string s, .iface tp p] 110 (0, 0)) ∧ Below w.heap.size w w' := Any.strconv_Atoi_range_var Tryd.laysC172 s hlim h tp p w hvar
def Tryd.lays157_ren : Go.Shelf.Ren := ⟨fun | 157 => 28 | 229 => 37 | 199 => 38 | 261 => 51 | 311 => 67 | 312 => 68 | n => n, fun | 9 => 9 | 31 => 38 | 3 => 3 | 5 => 5 | 4 => 4 | 119 => 55 | 0 => 0 | 40 => 57 | 152 => 69 | 21 => 21 | 154 => 71 | 51 => 72 | 141 => 74 | 196 => 96 | 193 => 93 | 198 => 99 | 49 => 97 | 194 => 94 | 201 => 102 | 226 => 118 | 46 => 107 | 227 => 119 | n => n, fun | 0 => 0 | 6 => 1 | n => n⟩
theorem Tryd.lays157 : Go.Proofs.Lays.n157 Tryd.prog Tryd.lays157_ren := {
  mixed := by kernel_rfl
  f157 := Tryd.func28.trans (congrArg some (by kernel_rfl))
  f199 := Tryd.func38.trans (congrArg some (by kernel_rfl))
  f229 := Tryd.func37.trans (congrArg some (by kernel_rfl))
  f261 := Tryd.func51.trans (congrArg some (by kernel_rfl))
  f311 := Tryd.func67.trans (congrArg some (by kernel_rfl))
  f312 := Tryd.func68.trans (congrArg some (by kernel_rfl))
  t0 := Tryd.underlying0
  a0 := Tryd.isAgg0
  z0 := Tryd.sizeOf0
  v0 := Tryd.zeroValue0
  t3 := Tryd.underlying3
  a3 := Tryd.isAgg3
  z3 := Tryd.sizeOf3
  v3 := Tryd.zeroValue3
  t4 := Tryd.underlying4
  a4 := Tryd.isAgg4
  z4 := Tryd.sizeOf4
  v4 := Tryd.zeroValue4
  t5 := Tryd.underlying5
  a5 := Tryd.isAgg5
  z5 := Tryd.sizeOf5
  v5 := Tryd.zeroValue5
  t9 := Tryd.underlying9
  a9 := Tryd.isAgg9
  z9 := Tryd.sizeOf9
  v9 := Tryd.zeroValue9
  t21 := Tryd.underlying21
  a21 := Tryd.isAgg21
  z21 := Tryd.sizeOf21
  v21 := Tryd.zeroValue21
  t31 := Tryd.underlying38
  a31 := Tryd.isAgg38
  z31 := Tryd.sizeOf38
  v31 := Tryd.zeroValue38
  t40 := Tryd.underlying57
  a40 := Tryd.isAgg57
  z40 := Tryd.sizeOf57
  v40 := Tryd.zeroValue57
  t46 := Tryd.underlying107
  a46 := Tryd.isAgg107
  z46 := Tryd.sizeOf107
  v46 := Tryd.zeroValue107
  t49 := Tryd.underlying97
  a49 := Tryd.isAgg97
  z49 := Tryd.sizeOf97
  v49 := Tryd.zeroValue97
  t51 := Tryd.underlying72
  a51 := Tryd.isAgg72
  z51 := Tryd.sizeOf72
  v51 := Tryd.zeroValue72
  t119 := Tryd.underlying55
  a119 := Tryd.isAgg55
  z119 := Tryd.sizeOf55
  t141 := Tryd.underlying74
  a141 := Tryd.isAgg74
  z141 := Tryd.sizeOf74
  v141 := Tryd.zeroValue74
  t152 := Tryd.underlying69
  a152 := Tryd.isAgg69
  z152 := Tryd.sizeOf69
  v152 := Tryd.zeroValue69
  t154 := Tryd.underlying71
  a154 := Tryd.isAgg71
  z154 := Tryd.sizeOf71
  v154 := Tryd.zeroValue71
  t193 := Tryd.underlying93
  a193 := Tryd.isAgg93
  z193 := Tryd.sizeOf93
  v193 := Tryd.zeroValue93
  t194 := Tryd.underlying94
  a194 := Tryd.isAgg94
  z194 := Tryd.sizeOf94
  v194 := Tryd.zeroValue94
  t196 := Tryd.underlying96
  a196 := Tryd.isAgg96
  z196 := Tryd.sizeOf96
  v196 := Tryd.zeroValue96
  t198 := Tryd.underlying99
  a198 := Tryd.isAgg99
  z198 := Tryd.sizeOf99
  v198 := Tryd.zeroValue99
  t201 := Tryd.underlying102
  a201 := Tryd.isAgg102
  z201 := Tryd.sizeOf102
  v201 := Tryd.zeroValue102
  t226 := Tryd.underlying118
  a226 := Tryd.isAgg118
  z226 := Tryd.sizeOf118
  v226 := Tryd.zeroValue118
  t227 := Tryd.underlying119
  a227 := Tryd.isAgg119
  z227 := Tryd.sizeOf119
  v227 := Tryd.zeroValue119
  g0 := by kernel_rfl
  g6 := by kernel_rfl }
open Go.RowKit Go.Lib in
/-- **strings.Fields AT EVERY STRING, VALID UTF-8 OR NOT.** (LAID: no walk: one application.) -/
theorem Tryd.strings_Fields_any (s : ByteArray) (w : World) (hs : s.size < 4294967281) (htab : Lib.TabIs Tryd.prog w "strings.asciiSpace" .u8 Lib.asciiSpaceTab) (hW : Lib.WhiteTab 1 w) :
    Calls Tryd.prog 28 #[.string s] w fun e w' => ∃ A, e = .returned (.slice (some ⟨A, 0, none⟩) (Lib.fieldsD s.data.toList).length (Lib.fieldsD s.data.toList).length) ∧ w.heap.size ≤ A ∧
      w'.ownsRow w.heap.size 9 1 (.slice (some ⟨A, 0, none⟩) (Lib.fieldsD s.data.toList).length (Lib.fieldsD s.data.toList).length) (Lib.fieldsD s.data.toList).length ((Lib.fieldsD s.data.toList).map fun x => Value.string ⟨x.toArray⟩) ∧ Below w.heap.size w w' := Any.strings_Fields_any Tryd.lays157 (by kernel_rfl) (by kernel_rfl) (by kernel_rfl) s w hs htab hW
open Go.RowKit in
theorem Tryd.strings_Trim_laid (s cutset : ByteArray) (w : World) (hs : s.size ≤ 9223372036854775807) (hcs : cutset.size < 4294967281)
    (hascii : ∀ (j : Nat) b, cutset.data.toList[j]? = some b → b.toNat < 128) :
    Calls Tryd.prog 29 #[.string s, .string cutset] w fun e w' => e = .returned (.string ⟨(Lib.trimS s.data.toList cutset.data.toList).toArray⟩) ∧ Below w.heap.size w w' := Any.strings_Trim_laid Tryd.lays160 (by kernel_rfl) s cutset w hs hcs hascii
end Go.Proofs
end
section
set_option linter.unusedSimpArgs false
set_option linter.unusedVariables false
namespace Go.Proofs.YthnjbnfnljjepaaDoor
open Go Go.RowKit Go.WideShapes Go.ChangeShapes Go.Deep

theorem Tryd.laidOut : laidOutB Tryd.prog = true := by kernel_rfl
theorem Tryd.own : ownKnob Tryd.prog.godebug = none := by kernel_rfl
theorem Tryd.mixed : Tryd.prog.follows .mixedOrders = true := by kernel_rfl

theorem var_stays {P : Program} {w w' : World} {n : String} {cs : Array Value} (h : w.var? P n = some cs) (hb : Below w.heap.size w w') : w'.var? P n = some cs := by
  unfold World.var? at h ⊢
  cases hg : P.globalNamed n with
  | none => simp [hg] at h
  | some g =>
    simp only [hg, Option.bind_some] at h ⊢
    have hlt : g < w.heap.size := by
      rcases Nat.lt_or_ge g w.heap.size with h' | h'
      · exact h'
      · simp [Array.getElem?_eq_none h'] at h
    rw [hb.block g hlt]
    exact h
/-- what the library's variables hold -/
structure Door (w : World) : Prop where
  p10 : Lib.TabIs Tryd.prog w "internal/strconv.uint64pow10" .u64 Lib.pow10Tab
  sp : Lib.TabIs Tryd.prog w "strings.asciiSpace" .u8 Lib.asciiSpaceTab
  wh : Lib.WhiteTab 1 w
  es : ∃ tp p, w.var? Tryd.prog "strconv.ErrSyntax" = some #[.iface tp p]
  er : ∃ tp p, w.var? Tryd.prog "strconv.ErrRange" = some #[.iface tp p]
theorem Door.keep {w w' : World} (hb : Below w.heap.size w w') (h : Door w) : Door w' := by
  obtain ⟨h1, h2, h3, ⟨t4, p4, h4⟩, t5, p5, h5⟩ := h
  exact ⟨var_stays h1 hb, var_stays h2 hb, WhiteTab_below h3 hb, ⟨t4, p4, var_stays h4 hb⟩, t5, p5, var_stays h5 hb⟩
instance : WInv := ⟨Door, fun _ _ hb h => h.keep hb⟩

abbrev dI (n : Int) : Dt := .sc (.int .i64 n)
abbrev dB (b : Bool) : Dt := .sc (.bool b)
abbrev aI (n : Int) : Av := .b (.one (.d (.sc (.int .i64 n))))
abbrev aB (b : Bool) : Av := .b (.one (.d (.sc (.bool b))))
abbrev pI (n : Int) : Pa := .one (.sc (.int .i64 n))
abbrev pB (b : Bool) : Pa := .one (.sc (.bool b))
abbrev pS (b : ByteArray) : Pa := .one (.sc (.string b))
/-- as many cells of a block as there are -/
def World.cellsOf (w : World) (b : Nat) : Nat := match w.heap[b]? with
  | some (.cells arr _ _) => arr.size
  | _ => 0
theorem cellsOf_lt {w : World} (b i : Nat) (h : (w.cell? ⟨b, i, none⟩).isSome = true) : i < World.cellsOf w b := by
  unfold World.cellsOf
  unfold World.cell? at h
  cases hb : w.heap[b]? with
  | none => simp [hb] at h
  | some x =>
    cases x with
    | cells arr T fr => simp only [hb] at h; simpa using h
    | _ => simp [hb] at h

def intsD (l : List Int) : Dt := .im (l.map fun x => [dI x])
theorem RPs.nth {S : Nat → Nat} {w : World} {ps : List Pa} {vs : Array Value} (h : RPs S w ps vs) {i : Nat} {p : Pa} (hp : ps[i]? = some p) : ∃ u, vs[i]? = some u ∧ RP S w p u := by
  have hi : i < vs.size := by rw [← h.1]; exact (List.getElem?_eq_some_iff.1 hp).1
  exact ⟨vs[i], Array.getElem?_eq_getElem hi, h.2 i p _ hp (Array.getElem?_eq_getElem hi)⟩
theorem RPs.one {S : Nat → Nat} {w : World} {p : Pa} {vs : Array Value} (h : RPs S w [p] vs) : ∃ u, vs = #[u] ∧ RP S w p u := by
  obtain ⟨u, h1, h2⟩ := h.nth (i := 0) rfl
  refine ⟨u, ?_, h2⟩
  have h3 := h.1
  apply Array.ext_getElem?
  intro j
  match j with
  | 0 => simpa using h1
  | j + 1 => rw [Array.getElem?_eq_none (by simp at h3; omega), Array.getElem?_eq_none (by simp)]
theorem RPs.two {S : Nat → Nat} {w : World} {p q : Pa} {vs : Array Value} (h : RPs S w [p, q] vs) : ∃ u v, vs = #[u, v] ∧ RP S w p u ∧ RP S w q v := by
  obtain ⟨u, h1, h2⟩ := h.nth (i := 0) rfl
  obtain ⟨v, h3, h4⟩ := h.nth (i := 1) rfl
  refine ⟨u, v, ?_, h2, h4⟩
  have h5 := h.1
  apply Array.ext_getElem?
  intro j
  match j with
  | 0 => simpa using h1
  | 1 => simpa using h3
  | j + 2 => rw [Array.getElem?_eq_none (by simp at h5; omega), Array.getElem?_eq_none (by simp)]
theorem RPs.three {S : Nat → Nat} {w : World} {p q r : Pa} {vs : Array Value} (h : RPs S w [p, q, r] vs) : ∃ u v x, vs = #[u, v, x] ∧ RP S w p u ∧ RP S w q v ∧ RP S w r x := by
  obtain ⟨u, h1, h2⟩ := h.nth (i := 0) rfl
  obtain ⟨v, h3, h4⟩ := h.nth (i := 1) rfl
  obtain ⟨x, h6, h7⟩ := h.nth (i := 2) rfl
  refine ⟨u, v, x, ?_, h2, h4, h7⟩
  have h5 := h.1
  apply Array.ext_getElem?
  intro j
  match j with
  | 0 => simpa using h1
  | 1 => simpa using h3
  | 2 => simpa using h6
  | j + 3 => rw [Array.getElem?_eq_none (by simp at h5; omega), Array.getElem?_eq_none (by simp)]
theorem RPs.nil {S : Nat → Nat} {w : World} {vs : Array Value} (h : RPs S w [] vs) : vs = #[] := by
  have h3 := h.1
  apply Array.ext_getElem?
  intro j
  rw [Array.getElem?_eq_none (by simp at h3; omega), Array.getElem?_eq_none (by simp)]
theorem RPs.mk1 {S : Nat → Nat} {w : World} {p : Pa} {u : Value} (h : RP S w p u) : RPs S w [p] #[u] := ⟨rfl, fun i q v h1 h2 => by
  match i with
  | 0 => cases h1; simp at h2; subst h2; exact h
  | i + 1 => simp at h1⟩
theorem RPs.mk2 {S : Nat → Nat} {w : World} {p q : Pa} {u v : Value} (h : RP S w p u) (k : RP S w q v) : RPs S w [p, q] #[u, v] := ⟨rfl, fun i r x h1 h2 => by
  match i with
  | 0 => cases h1; simp at h2; subst h2; exact h
  | 1 => cases h1; simp at h2; subst h2; exact k
  | i + 2 => simp at h1⟩
theorem RPs.mk3 {S : Nat → Nat} {w : World} {p q r : Pa} {u v x : Value} (h : RP S w p u) (k : RP S w q v) (m : RP S w r x) : RPs S w [p, q, r] #[u, v, x] := ⟨rfl, fun i o y h1 h2 => by
  match i with
  | 0 => cases h1; simp at h2; subst h2; exact h
  | 1 => cases h1; simp at h2; subst h2; exact k
  | 2 => cases h1; simp at h2; subst h2; exact m
  | i + 3 => simp at h1⟩
theorem RP.int {S : Nat → Nat} {w : World} {n : Int} {u : Value} (h : RP S w (pI n) u) : u = .int .i64 n := (RD.sc_inv h).1
theorem RP.mkInt {S : Nat → Nat} {w : World} (n : Int) : RP S w (pI n) (.int .i64 n) := .sc _ rfl
theorem RP.mkBool {S : Nat → Nat} {w : World} (n : Bool) : RP S w (pB n) (.bool n) := .sc _ rfl
theorem RP.bool {S : Nat → Nat} {w : World} {n : Bool} {u : Value} (h : RP S w (pB n) u) : u = .bool n := (RD.sc_inv h).1
/-- a struct of numbers -/
theorem RP.flat {S : Nat → Nat} {w : World} {vs : List Value} {u : Value} (h : RP S w (.agg (vs.map Dt.sc)) u) : u = .agg vs.toArray := by
  obtain ⟨arr, rfl, h2, h3⟩ := h
  congr 1
  apply Array.ext_getElem?
  intro j
  simp only [List.getElem?_toArray]
  rw [List.length_map] at h2
  cases hj : vs[j]? with
  | none => rw [Array.getElem?_eq_none]; rw [List.getElem?_eq_none_iff] at hj; omega
  | some x =>
    have hlt : j < arr.size := by have := (List.getElem?_eq_some_iff.1 hj).1; omega
    rw [Array.getElem?_eq_getElem hlt, (RD.sc_inv (h3 j (.sc x) arr[j] (by rw [List.getElem?_map, hj]; rfl) (Array.getElem?_eq_getElem hlt))).1]
theorem RP.mkFlat {S : Nat → Nat} {w : World} {vs : List Value} (h : ∀ u, u ∈ vs → u.oneCell' = true) : RP S w (.agg (vs.map Dt.sc)) (.agg vs.toArray) := by
  refine ⟨_, rfl, by simp, fun i x u h1 h2 => ?_⟩
  rw [List.getElem?_map, Option.map_eq_some_iff] at h1
  obtain ⟨y, hy, rfl⟩ := h1
  simp [hy] at h2
  subst h2
  exact .sc _ (h y (List.mem_of_getElem? hy))
theorem trod_int_field {H : Type} {enc : TypeId × Value → H} {P : Program} {w : World} {base n : Nat} {spare : Nat → Bool} {held : Bool} {t : TypeId} (ht : P.underlying t = some (.int .i64)) {v : Value} {y : DataW H × List MemPlace} (h : DataW.trod enc P w base spare held n t [v] = some y) : ∃ x, v = .int .i64 x ∧ (Lit.int .i64 x).wf = true := by
  obtain ⟨x, hx, _, hw⟩ := DataW.trod_int ht h
  simp at hx
  exact ⟨x, hx, hw⟩

theorem i64_of_wf {x : Int} (h : (Lit.int .i64 x).wf = true) : -9223372036854775808 ≤ x ∧ x ≤ 9223372036854775807 := by
  simp [Lit.wf, IntKind.min, IntKind.max, IntKind.signed, IntKind.bits] at h
  omega

theorem trodAll_below {H : Type} {enc : TypeId × Value → H} {P : Program} (hl : laidOutB P = true) {W W' : World} (hb : Below W.heap.size W W') :
    ∀ {ts : List TypeId} {vs : List Value} {ds : List (DataW H)} {ps : List MemPlace}, (ts.all fun t => P.readableRec t && decide (t < P.types.size)) = true → DataW.TrodAll enc P W 0 (fun _ => true) true ts vs ds ps → DataW.TrodAll enc P W' 0 (fun b => decide (b < W.heap.size)) true ts vs ds ps
  | [], vs, ds, ps, _, h => by obtain ⟨rfl, rfl, rfl⟩ := trodAll_nil h; exact trodAll_mk0
  | t :: ts, vs, ds, ps, ht, h => by
    obtain ⟨v, vs', d, ds', p, q, rfl, rfl, rfl, h1, h2⟩ := trodAll_cons h
    simp only [List.all_cons, Bool.and_eq_true, decide_eq_true_eq] at ht
    have lt : ∀ x ∈ p, x.block < W.heap.size := by obtain ⟨m, hm⟩ := h1; exact DataW.trod_lt m _ _ _ hm
    exact trodAll_cons_mk (Below.trod hl ht.1.1 ht.1.2 h1 hb lt) (trodAll_below hl hb (by rw [Bool.eq_iff_iff] at *; simpa using ht.2) h2)

/-- what a contract on data that answers 'true' says of a call -/
theorem Spec.true [I : WInv] {P : Program} {f : Nat} {R : List Pa → List Pa → Prop} (hs : Spec P f R) {ps : List Pa} (hR : R ps [pB true]) {S : Nat → Nat} {w : World} {vals : Array Value} (hw : I.p w) (hv : RPs S w ps vals) :
    Calls P f vals w fun e w' => e = .returned (.bool true) ∧ Below w.heap.size w w' := by
  refine (hs ps _ hR S w vals hw hv).mono ?_
  rintro e w' ⟨v, S', rfl, h1, h2, _⟩
  exact ⟨by rw [RP.bool h1], h2⟩

/-- an array of numbers -/
theorem open_nums {H : Type} {enc : TypeId × Value → H} {P : Program} {w : World} {r : Reach} {b0 base : Nat} {spare : Nat → Bool} {held : Bool} {t tI : TypeId} {n : Nat} (ht : P.underlying t = some (.array n tI)) (hI : P.underlying tI = some (.int .i64)) (hcI : P.cellsOf tI = 1) (hct : P.cellsOf t = n)
    {v : Value} {d : DataW H} {ps : List MemPlace} (hv : ∃ xs : Array Value, v = .agg xs ∧ xs.size = n) (h : DataW.Trod enc P w base spare held t v d ps) :
    ∃ l : List Int, l.length = n ∧ v = .agg (l.map (Value.int .i64)).toArray ∧ ∀ x, x ∈ l → -9223372036854775808 ≤ x ∧ x ≤ 9223372036854775807 := by
  obtain ⟨cs, rfl, hcs⟩ := hv
  obtain ⟨fuel, hf⟩ := h
  obtain ⟨xs, m, _, _, hl, hlen, hfs⟩ := DataW.trod_array ht hf
  have key : ∀ i, ∃ x : Int, i < n → cs[i]? = some (.int .i64 x) ∧ -9223372036854775808 ≤ x ∧ x ≤ 9223372036854775807 := by
    intro i
    by_cases hi : i < n
    · have h1 := hfs i hi
      rw [hcI, Nat.mul_one] at h1
      have hic : i < cs.size := by omega
      have hone' : ((Value.agg cs).cells.toList.drop i).take 1 = [cs[i]'hic] := by
        show (cs.toList.drop i).take 1 = _
        rw [List.drop_eq_getElem_cons (by simpa using hic)]
        simp
      rw [hone'] at h1
      have hxs : xs[i]? = some (xs[i]'(by omega)) := List.getElem?_eq_getElem _
      rw [hxs] at h1
      obtain ⟨x, hx, hw⟩ := trod_int_field hI h1
      exact ⟨x, fun _ => ⟨by rw [Array.getElem?_eq_getElem hic, hx], i64_of_wf hw⟩⟩
    · exact ⟨0, fun h => absurd h hi⟩
  obtain ⟨g, hg⟩ := Classical.skolem.1 key
  refine ⟨(List.range n).map g, by simp, ?_, fun x hx => ?_⟩
  · congr 1
    apply Array.ext_getElem?
    intro i
    simp only [List.getElem?_toArray, List.getElem?_map]
    rcases Nat.lt_or_ge i n with hi | hi
    · rw [(hg i hi).1, List.getElem?_range hi]; rfl
    · rw [Array.getElem?_eq_none (by omega), List.getElem?_eq_none (by simpa using hi)]; rfl
  · simp only [List.mem_map, List.mem_range] at hx
    obtain ⟨i, hi, rfl⟩ := hx
    exact (hg i hi).2
end Go.Proofs.YthnjbnfnljjepaaDoor
end
section
set_option linter.unusedSimpArgs false
set_option linter.unusedVariables false
namespace Go.Proofs.YthnjbnfnljjepaaDoor
open Go Go.RowKit Go.Sort

abbrev strB (l : List UInt8) : ByteArray := ⟨l.toArray⟩
theorem strB_inj {a b : ByteArray} (h : a.data.toList = b.data.toList) : a = b := by
  cases a; cases b; simp at h; subst h; rfl
abbrev rowsS (xs : List ByteArray) : List (List Dt) := xs.map fun x => [Dt.sc (.string x)]
abbrev pL (xs : List ByteArray) : Pa := .one (.im (rowsS xs))

theorem RP.str {S : Nat → Nat} {w : World} {s : ByteArray} {u : Value} (h : RP S w (pS s) u) : u = .string s := (RD.sc_inv h).1
theorem below_grow' (w : World) (k : Nat) (os : Array Obj) : Below w.heap.size w (grow (w.drewN k) os) := Lib.below_grow _ w (Nat.le_refl _) k os

def R_itoa (ps rs : List Pa) : Prop := ∃ n : Int, (-9223372036854775808 ≤ n ∧ n ≤ 9223372036854775807) ∧ ps = [pI n] ∧ rs = [pS (strB (Lib.itoa n))]
theorem s_itoa : Spec Tryd.prog 26 R_itoa := by
  rintro az rs ⟨n, hn, rfl, rfl⟩ S w vals hI hv
  obtain ⟨u, rfl, h1⟩ := hv.one
  rw [RP.int h1]
  refine (Tryd.strconv_Itoa n hn.1 hn.2 w hI.p10).mono ?_
  rintro e w' ⟨rfl, k, os, rfl⟩
  exact ⟨_, S, rfl, .sc _ rfl, below_grow' w k os, fun _ _ => rfl⟩

def cutB : ByteArray := ⟨#[91, 93]⟩
def R_trim (ps rs : List Pa) : Prop := ∃ s : ByteArray, s.size ≤ 1000000 ∧ ps = [pS s, pS cutB] ∧ rs = [pS (strB (Lib.trimS s.data.toList [91, 93]))]
theorem s_trim : Spec Tryd.prog 29 R_trim := by
  rintro az rs ⟨s, hs, rfl, rfl⟩ S w vals hI hv
  obtain ⟨u, u2, rfl, h1, h2⟩ := hv.two
  rw [RP.str h1, RP.str h2]
  refine (Tryd.strings_Trim_laid s cutB w (by omega) (by decide) (ascii_of_all (by decide))).mono ?_
  rintro e w' ⟨rfl, hb⟩
  exact ⟨_, S, rfl, .sc _ rfl, hb, fun _ _ => rfl⟩

def R_atoi (ps rs : List Pa) : Prop := ∃ s : ByteArray, s.size ≤ 1000000 ∧ ps = [pS s] ∧ rs = match Lib.atoiAll s.data.toList with
  | .ok v => [pI v, .one (.sc .nilIface)]
  | .range => [pI (Lib.atoiSat s.data.toList), .one .nn]
  | _ => [pI 0, .one .nn]
theorem below_bytes (w : World) (t : TypeId) (s : ByteArray) : Below w.heap.size w (Lib.bytesWorld w t s) := by
  exact ⟨rfl, rfl, rfl, by rw [Lib.bytesWorld_size]; omega, fun k hk => Lib.bytesWorld_at_old w t s k hk⟩
theorem s_atoi : Spec Tryd.prog 30 R_atoi := by
  rintro az rs ⟨s, hs, rfl, rfl⟩ S w vals hI hv
  obtain ⟨u, rfl, h1⟩ := hv.one
  rw [RP.str h1]
  cases ha : Lib.atoiAll s.data.toList with
  | ok v =>
    refine (Tryd.strconv_Atoi_ok s (by omega) v ha w).mono ?_
    rintro e w' ⟨rfl, hb⟩
    refine ⟨_, S, rfl, ⟨_, rfl, RPs.mk2 (RP.mkInt v) (.sc _ rfl)⟩, ?_, fun _ _ => rfl⟩
    rcases hb with rfl | ⟨t, rfl⟩
    · exact Below.refl _ _
    · exact below_bytes _ _ _
  | range =>
    obtain ⟨tp, p, hvar⟩ := hI.er
    refine (Tryd.strconv_Atoi_range_var s (by omega) ha tp p w hvar).mono ?_
    rintro e w' ⟨N, rfl, _, _, hb⟩
    exact ⟨_, S, rfl, ⟨_, rfl, RPs.mk2 (RP.mkInt _) (.nn _ _)⟩, hb, fun _ _ => rfl⟩
  | _ =>
    obtain ⟨tp, p, hvar⟩ := hI.es
    refine (Tryd.strconv_Atoi_syntax_var s (by omega) ha tp p w hvar).mono ?_
    rintro e w' ⟨N, rfl, _, _, hb⟩
    exact ⟨_, S, rfl, ⟨_, rfl, RPs.mk2 (RP.mkInt 0) (.nn _ _)⟩, hb, fun _ _ => rfl⟩

/-- a slice of strings that a call has made -/
theorem rd_strs {S : Nat → Nat} {w w' : World} {A : Nat} {t : TypeId} {xs : List ByteArray} (hA : w.heap.size ≤ A)
    (ho : w'.ownsRow w.heap.size t 1 (.slice (some ⟨A, 0, none⟩) xs.length xs.length) xs.length (xs.map Value.string)) :
    ∃ S', RD S' w' (.im (rowsS xs)) (.slice (some ⟨A, 0, none⟩) xs.length xs.length) ∧ ∀ b, b < w.heap.size → S' b = S b := by
  obtain ⟨_, ho⟩ := ho
  rcases ho with ⟨h, _⟩ | ⟨g, cap, cur, he, _, hg, hc, hm, hsz, htk⟩
  · cases h
  cases he
  refine ⟨fun b => if b = A then xs.length else S b, ?_, fun b hb => if_neg (by omega)⟩
  have hcell : ∀ i, i < xs.length → w'.cell? ⟨A, i, none⟩ = some (.string (xs.getD i default)) := fun i hi => by
    have h1 : cur.toList[i]? = some (.string (xs.getD i default)) := by
      have h2 := congrArg (·[i]?) htk
      simp only [List.getElem?_take, Nat.mul_one, if_pos hi, List.getElem?_map] at h2
      rw [h2, List.getElem?_eq_getElem hi]
      simp [List.getD, List.getElem?_eq_getElem hi]
    simp only [World.cell?, hg]
    simpa using h1
  have h := RD.im (S := fun b => if b = A then xs.length else S b) (w := w') (rowsS xs) 1 A 0 xs.length (fun i _ => .string (xs.getD i default)) (by simp [rowsS]) hm (fun r hr => by simp only [rowsS, List.mem_map] at hr; obtain ⟨_, _, rfl⟩ := hr; rfl)
    (fun i j hi hj => by
      have hi' : i < xs.length := by simpa [rowsS] using hi
      have hj0 : j = 0 := by omega
      subst hj0
      rw [show 0 + (i * 1 + 0) = i by omega]
      exact ⟨hcell i hi', by simp [hi']⟩)
    (fun i r j x hr hx => by
      simp only [rowsS, List.getElem?_map, Option.map_eq_some_iff] at hr
      obtain ⟨y, hy, rfl⟩ := hr
      match j, hx with
      | 0, hx =>
        simp at hx
        subst hx
        simp only [List.getD, hy, Option.getD_some]
        exact .sc _ rfl
      | j + 1, hx => simp at hx)
  simpa [rowsS] using h

def R_fields (ps rs : List Pa) : Prop := ∃ s : ByteArray, s.size ≤ 1000000 ∧ ps = [pS s] ∧ rs = [pL ((Lib.fieldsD s.data.toList).map strB)]
theorem s_fields : Spec Tryd.prog 28 R_fields := by
  rintro az rs ⟨s, hs, rfl, rfl⟩ S w vals hI hv
  obtain ⟨u, rfl, h1⟩ := hv.one
  rw [RP.str h1]
  refine (Tryd.strings_Fields_any s w (by omega) hI.sp hI.wh).mono ?_
  rintro e w' ⟨A, rfl, hA, ho, hb⟩
  obtain ⟨S', h2, h3⟩ := rd_strs (S := S) (xs := (Lib.fieldsD s.data.toList).map strB) hA (by
    have : ((Lib.fieldsD s.data.toList).map fun x => Value.string ⟨x.toArray⟩) = ((Lib.fieldsD s.data.toList).map strB).map Value.string := by rw [List.map_map]; rfl
    rw [this] at ho
    simpa using ho)
  simp only [List.length_map] at h2
  exact ⟨_, S', rfl, h2, hb, h3⟩

def R_join (ps rs : List Pa) : Prop := ∃ (xs : List ByteArray) (sep : ByteArray), xs.length ≤ 1000000 ∧ (Lib.join (xs.map (·.data.toList)) sep.data.toList).length ≤ 1000000 ∧ ps = [pL xs, pS sep] ∧ rs = [pS (strB (Lib.join (xs.map (·.data.toList)) sep.data.toList))]
theorem s_join : Spec Tryd.prog 27 R_join := by
  rintro az rs ⟨xs, sep, hx, hl, rfl, rfl⟩ S w vals hI hv
  obtain ⟨u, u2, rfl, h1, h2⟩ := hv.two
  rw [RP.str h2]
  have h1' : RD S w (.im (rowsS xs)) u := h1
  obtain ⟨A, cap, vs, e0, e1, e2, e3, e4, e5, e6⟩ := h1'.flat (sz := 1) (fun r hr => by simp only [rowsS, List.mem_map] at hr; obtain ⟨_, _, rfl⟩ := hr; rfl)
  have hlen : (rowsS xs).length = xs.length := by simp [rowsS]
  by_cases hz : xs = []
  · subst hz
    rw [e0]
    refine (Tryd.strings_Join_none A cap sep w).mono ?_
    rintro e w' ⟨rfl, rfl⟩
    exact ⟨_, S, rfl, .sc _ rfl, Below.refl _ _, fun _ _ => rfl⟩
  rcases e6 with h | ⟨b, o, rfl, h7⟩
  · simp [rowsS] at h; exact absurd h hz
  rw [e0, hlen]
  have hcells : ∀ (j : Nat) x, xs[j]? = some x → w.cell? ⟨b, o + j, none⟩ = some (.string x) := fun j x hj => by
    obtain ⟨u', h3, h4⟩ := e5 j [Dt.sc (.string x)] 0 (.sc (.string x)) (by simp [rowsS, hj]) rfl
    rw [(RD.sc_inv h4).1, show j * 1 + 0 = j by omega] at h3
    exact (h7 j _ h3).1
  have hbk : b < w.heap.size := by
    obtain ⟨x, hx0⟩ : ∃ x, xs[0]? = some x := by cases xs with
      | nil => exact absurd rfl hz
      | cons x _ => exact ⟨x, rfl⟩
    have h3 := hcells 0 x hx0
    rcases Nat.lt_or_ge b w.heap.size with h' | h'
    · exact h'
    · simp [World.cell?, Array.getElem?_eq_none h'] at h3
  refine (Tryd.strings_Join b o cap xs sep w hcells hbk (by omega) (by omega) (by omega)).mono ?_
  rintro e w' ⟨rfl, hb⟩
  exact ⟨_, S, rfl, .sc _ rfl, hb, fun _ _ => rfl⟩
end Go.Proofs.YthnjbnfnljjepaaDoor
end
section
set_option linter.unusedSimpArgs false
set_option linter.unusedVariables false
namespace Go.Proofs.YthnjbnfnljjepaaDoor
open Go Go.RowKit
set_option maxRecDepth 100000
set_option maxHeartbeats 4000000

abbrev Ck := List Int
def ckRow (c : Ck) : List Dt := c.map dI
def ckPa (c : Ck) : Pa := .agg (ckRow c)
def ckCells (c : Ck) : List Cl := c.map fun x => .d (dI x)
theorem ckCells_dt (c : Ck) : allSome ((ckCells c).map Cl.dt) = some (ckRow c) := by
  induction c with
  | nil => rfl
  | cons x c ih =>
    show (allSome ((ckCells c).map Cl.dt)).map (dI x :: ·) = _
    rw [ih]; rfl
theorem ckRow_cells (c : Ck) : (ckRow c).map Cl.d = ckCells c := by unfold ckRow ckCells; rw [List.map_map]; rfl
theorem ckCells_length (c : Ck) : (ckCells c).length = c.length := List.length_map ..
theorem ckCells_get (c : Ck) (i : Nat) (x : Int) (h : c[i]? = some x) : (ckCells c)[i]? = some (.d (dI x)) := by unfold ckCells; rw [List.getElem?_map, h]; rfl
theorem ckCells_set (c : Ck) (i : Nat) (x : Int) (h : i < c.length) : wrAt (ckCells c) i [.d (dI x)] = ckCells (c.set i x) := by
  induction c generalizing i with
  | nil => simp at h
  | cons y c ih =>
    cases i with
    | zero =>
      simp only [ckCells, List.map_cons, wrAt, List.set_cons_zero]
      congr 1
      cases c <;> rfl
    | succ i =>
      simp only [ckCells, List.map_cons, List.set_cons_succ, wrAt]
      congr 1
      exact ih i (by simpa using h)
theorem wrAt_full {cs ds : List Cl} (h : cs.length = ds.length) : wrAt cs 0 ds = ds := by
  induction cs generalizing ds with
  | nil => cases ds with
    | nil => rfl
    | cons d ds => simp at h
  | cons c cs ih => cases ds with
    | nil => simp at h
    | cons d ds =>
      simp only [wrAt]
      rw [ih (by simpa using h)]
theorem wr_new8 {c : Ck} (h : c.length = 8) : wrAt [.d (.sc (.int .i64 0)), .d (.sc (.int .i64 0)), .d (.sc (.int .i64 0)), .d (.sc (.int .i64 0)), .d (.sc (.int .i64 0)), .d (.sc (.int .i64 0)), .d (.sc (.int .i64 0)), .d (.sc (.int .i64 0))] 0 (ckCells c) = ckCells c :=
  wrAt_full (by rw [ckCells_length, h]; rfl)
theorem eqCls_ck {a b : Ck} (h : a.length = b.length) : eqCls (List.replicate a.length false) (ckCells a) (ckCells b) = some (decide (a = b)) := by
  induction a generalizing b with
  | nil =>
    cases b with
    | nil => rfl
    | cons y b => simp at h
  | cons x a ih =>
    cases b with
    | nil => simp at h
    | cons y b =>
      have h2 := ih (b := b) (by simpa using h)
      rw [List.length_cons, List.replicate_succ]
      show (match eqCl false (.d (dI x)) (.d (dI y)), eqCls (List.replicate a.length false) (ckCells a) (ckCells b) with | some p, some q => some (p && q) | _, _ => none) = _
      rw [h2]
      show some ((x == y) && decide (a = b)) = _
      congr 1
      rw [Bool.eq_iff_iff]; simp

section
variable (f : Int → Int → Int)
def zipC (a b : Ck) : Ck := List.zipWith f a b
def toC (a b : Ck) (k : Nat) : Ck := zipC f (a.take k) (b.take k) ++ a.drop k
variable {f}
theorem zipC_length {a b : Ck} (ha : a.length = 8) (hb : b.length = 8) : (zipC f a b).length = 8 := by unfold zipC; rw [List.length_zipWith]; omega
theorem toC_zero (a b : Ck) : toC f a b 0 = a := by simp [toC, zipC]
theorem toC_all {a b : Ck} (ha : a.length = 8) (hb : b.length = 8) : toC f a b 8 = zipC f a b := by
  unfold toC
  rw [List.take_of_length_le (by omega), List.take_of_length_le (by omega), List.drop_eq_nil_of_le (by omega), List.append_nil]
theorem toC_length {a b : Ck} (ha : a.length = 8) (hb : b.length = 8) {k : Nat} (hk : k ≤ 8) : (toC f a b k).length = 8 := by
  unfold toC zipC
  rw [List.length_append, List.length_zipWith, List.length_take, List.length_take, List.length_drop]; omega
theorem toC_get {a b : Ck} (ha : a.length = 8) (hb : b.length = 8) {k : Nat} (hk : k < 8) {x : Int} (hx : a[k]? = some x) : (toC f a b k)[k]? = some x := by
  have hl : (zipC f (a.take k) (b.take k)).length = k := by unfold zipC; rw [List.length_zipWith, List.length_take, List.length_take]; omega
  unfold toC
  rw [List.getElem?_append_right (by omega), hl, Nat.sub_self, List.getElem?_drop, Nat.add_zero]; exact hx
theorem toC_succ {a b : Ck} (ha : a.length = 8) (hb : b.length = 8) {k : Nat} (hk : k < 8) {x y : Int} (hx : a[k]? = some x) (hy : b[k]? = some y) : (toC f a b k).set k (f x y) = toC f a b (k + 1) := by
  have hl : (zipC f (a.take k) (b.take k)).length = k := by unfold zipC; rw [List.length_zipWith, List.length_take, List.length_take]; omega
  unfold toC
  rw [List.set_append_right _ _ (by omega), hl, Nat.sub_self, List.drop_eq_getElem_cons (by omega), List.set_cons_zero]
  have e1 : a.take (k + 1) = a.take k ++ [x] := by rw [List.take_add_one, hx]; rfl
  have e2 : b.take (k + 1) = b.take k ++ [y] := by rw [List.take_add_one, hy]; rfl
  rw [e1, e2]
  unfold zipC
  rw [List.zipWith_append (by rw [List.length_take, List.length_take]; omega)]
  simp
end
def fJ (x y : Int) : Int := if y > x then y else x
def fM (x y : Int) : Int := if y < x then y else x
/-- what a function of two clocks does -/
def R_zip (f : Int → Int → Int) (ps rs : List Pa) : Prop := ∃ a b : Ck, ps = [ckPa a, ckPa b] ∧ (a.length = 8 ∧ b.length = 8) ∧ rs = [ckPa (zipC f a b)]
theorem R_zip.mk {f : Int → Int → Int} {a b : Ck} (ha : a.length = 8) (hb : b.length = 8) : R_zip f [ckPa a, ckPa b] [ckPa (zipC f a b)] := ⟨a, b, rfl, ⟨ha, hb⟩, rfl⟩
theorem s_cJoin : Spec Tryd.prog 15 (R_zip fJ) := by
  refine sp15 EnvOK.e0 ?_
  rintro ps rs ⟨a, b, rfl, ⟨ha, hb⟩, rfl⟩
  refine ⟨by simp, ?_⟩
  unfold pc15
  refine pwp_start ?_
  simp only [↓evP, evB, stB, reduceIte, reduceCtorEq, Nat.reduceEqDiff, Nat.reduceAdd, Nat.reduceMul, Nat.reduceLeDiff, Nat.reduceLT, Nat.reduceSub, Nat.reduceBEq, ckPa, ckRow_cells]
  refine pwp_loopW ms15_0 os15_0 (fun m st => ∃ k : Nat, m = 8 - k ∧ k ≤ 8 ∧ st.sl 6 = aI k ∧ st.gen 2 = 1 ∧ st.ob 2 = .cells (ckCells (toC fJ a b k))) 8 ?_ ?_
  · exact ⟨0, rfl, Nat.zero_le _, by simp only [stB, reduceIte, reduceCtorEq, Nat.reduceEqDiff, Nat.reduceAdd, Nat.reduceMul, Nat.reduceLeDiff, Nat.reduceLT, Nat.reduceSub, Nat.reduceBEq]; rfl, by simp only [stB, reduceIte, reduceCtorEq, Nat.reduceEqDiff, Nat.reduceAdd, Nat.reduceMul, Nat.reduceLeDiff, Nat.reduceLT, Nat.reduceSub, Nat.reduceBEq], by simp only [stB, reduceIte, reduceCtorEq, Nat.reduceEqDiff, Nat.reduceAdd, Nat.reduceMul, Nat.reduceLeDiff, Nat.reduceLT, Nat.reduceSub, Nat.reduceBEq, toC_zero]⟩
  · rintro m j ⟨k, rfl, hk, h6, g2, o2⟩
    simp only [stB, reduceIte, reduceCtorEq, Nat.reduceEqDiff, Nat.reduceAdd, Nat.reduceMul, Nat.reduceLeDiff, Nat.reduceLT, Nat.reduceSub, Nat.reduceBEq] at h6 g2 o2
    rcases Nat.lt_or_ge k 8 with hlt | hge
    · obtain ⟨x, hx⟩ : ∃ x, a[k]? = some x := ⟨_, List.getElem?_eq_getElem (by omega)⟩
      obtain ⟨y, hy⟩ : ∃ y, b[k]? = some y := ⟨_, List.getElem?_eq_getElem (by omega)⟩
      have hlt' : (k : Int) < 8 := by omega
      have h0 : (0 : Int) ≤ (k : Int) := by omega
      have hlt8 : (k : Int) < ((8 : Nat) : Int) := by omega
      have e1 := ckCells_get _ _ _ (toC_get (f := fJ) ha hb hlt hx)
      have e2 := ckCells_get _ _ _ hy
      have e3 : k + 1 ≤ (ckCells (toC fJ a b k)).length := by rw [ckCells_length, toC_length ha hb hk]; omega
      have e4 := (ckCells_set (toC fJ a b k) k (if y > x then y else x) (by rw [toC_length ha hb hk]; omega)).trans (congrArg ckCells (toC_succ (f := fJ) ha hb hlt hx hy))
      simp only [↓evP, evB, stB, reduceIte, reduceCtorEq, Nat.reduceEqDiff, Nat.reduceAdd, Nat.reduceMul, Nat.reduceLeDiff, Nat.reduceLT, Nat.reduceSub, Nat.reduceBEq, h6, g2, o2, hlt', hlt8, h0, e1, e2, e3, e4, Nat.mul_one, List.foldl_cons, List.foldl_nil]
      refine ⟨(by unfold Drw; kernel_rfl), ?_⟩
      exact ⟨_, by omega, (by repeat' (first | assumption | exact within_over.mpr trivial | exact Within.refl _ _ _ | (refine within_ap ?_ rfl rfl) | (refine within_ap0 ?_ rfl))), k + 1, rfl, by omega, by simp only [stB, reduceIte, reduceCtorEq, Nat.reduceEqDiff, Nat.reduceAdd, Nat.reduceMul, Nat.reduceLeDiff, Nat.reduceLT, Nat.reduceSub, Nat.reduceBEq, h6]; rw [wrN (by omega)], by simp only [stB, reduceIte, reduceCtorEq, Nat.reduceEqDiff, Nat.reduceAdd, Nat.reduceMul, Nat.reduceLeDiff, Nat.reduceLT, Nat.reduceSub, Nat.reduceBEq, g2], by simp only [stB, reduceIte, reduceCtorEq, Nat.reduceEqDiff, Nat.reduceAdd, Nat.reduceMul, Nat.reduceLeDiff, Nat.reduceLT, Nat.reduceSub, Nat.reduceBEq, o2, wrF_cells]; rw [e4]⟩
    · have hk8 : k = 8 := by omega
      subst hk8
      have hlt' : ¬ ((8 : Nat) : Int) < 8 := by omega
      have e3 : 0 + 8 ≤ (ckCells (toC fJ a b 8)).length := by rw [ckCells_length, toC_length ha hb (by omega)]; omega
      have e4 : (ckCells (toC fJ a b 8)).take 8 = ckCells (toC fJ a b 8) := List.take_of_length_le (by rw [ckCells_length, toC_length ha hb (by omega)]; omega)
      have e5 : (ckCells (toC fJ a b 8)).length = 8 := by rw [ckCells_length, toC_length ha hb (by omega)]
      simp only [↓evP, evB, stB, reduceIte, reduceCtorEq, Nat.reduceEqDiff, Nat.reduceAdd, Nat.reduceMul, Nat.reduceLeDiff, Nat.reduceLT, Nat.reduceSub, Nat.reduceBEq, h6, g2, o2, hlt', e3, e4, e5, wr_new8 (toC_length ha hb (Nat.le_refl 8)), ckCells_dt, pr15]
      rw [toC_all ha hb]
theorem s_cMeet : Spec Tryd.prog 12 (R_zip fM) := by
  refine sp12 EnvOK.e0 ?_
  rintro ps rs ⟨a, b, rfl, ⟨ha, hb⟩, rfl⟩
  refine ⟨by simp, ?_⟩
  unfold pc12
  refine pwp_start ?_
  simp only [↓evP, evB, stB, reduceIte, reduceCtorEq, Nat.reduceEqDiff, Nat.reduceAdd, Nat.reduceMul, Nat.reduceLeDiff, Nat.reduceLT, Nat.reduceSub, Nat.reduceBEq, ckPa, ckRow_cells]
  refine pwp_loopW ms12_0 os12_0 (fun m st => ∃ k : Nat, m = 8 - k ∧ k ≤ 8 ∧ st.sl 6 = aI k ∧ st.gen 2 = 1 ∧ st.ob 2 = .cells (ckCells (toC fM a b k))) 8 ?_ ?_
  · exact ⟨0, rfl, Nat.zero_le _, by simp only [stB, reduceIte, reduceCtorEq, Nat.reduceEqDiff, Nat.reduceAdd, Nat.reduceMul, Nat.reduceLeDiff, Nat.reduceLT, Nat.reduceSub, Nat.reduceBEq]; rfl, by simp only [stB, reduceIte, reduceCtorEq, Nat.reduceEqDiff, Nat.reduceAdd, Nat.reduceMul, Nat.reduceLeDiff, Nat.reduceLT, Nat.reduceSub, Nat.reduceBEq], by simp only [stB, reduceIte, reduceCtorEq, Nat.reduceEqDiff, Nat.reduceAdd, Nat.reduceMul, Nat.reduceLeDiff, Nat.reduceLT, Nat.reduceSub, Nat.reduceBEq, toC_zero]⟩
  · rintro m j ⟨k, rfl, hk, h6, g2, o2⟩
    simp only [stB, reduceIte, reduceCtorEq, Nat.reduceEqDiff, Nat.reduceAdd, Nat.reduceMul, Nat.reduceLeDiff, Nat.reduceLT, Nat.reduceSub, Nat.reduceBEq] at h6 g2 o2
    rcases Nat.lt_or_ge k 8 with hlt | hge
    · obtain ⟨x, hx⟩ : ∃ x, a[k]? = some x := ⟨_, List.getElem?_eq_getElem (by omega)⟩
      obtain ⟨y, hy⟩ : ∃ y, b[k]? = some y := ⟨_, List.getElem?_eq_getElem (by omega)⟩
      have hlt' : (k : Int) < 8 := by omega
      have h0 : (0 : Int) ≤ (k : Int) := by omega
      have hlt8 : (k : Int) < ((8 : Nat) : Int) := by omega
      have e1 := ckCells_get _ _ _ (toC_get (f := fM) ha hb hlt hx)
      have e2 := ckCells_get _ _ _ hy
      have e3 : k + 1 ≤ (ckCells (toC fM a b k)).length := by rw [ckCells_length, toC_length ha hb hk]; omega
      have e4 := (ckCells_set (toC fM a b k) k (if y < x then y else x) (by rw [toC_length ha hb hk]; omega)).trans (congrArg ckCells (toC_succ (f := fM) ha hb hlt hx hy))
      simp only [↓evP, evB, stB, reduceIte, reduceCtorEq, Nat.reduceEqDiff, Nat.reduceAdd, Nat.reduceMul, Nat.reduceLeDiff, Nat.reduceLT, Nat.reduceSub, Nat.reduceBEq, h6, g2, o2, hlt', hlt8, h0, e1, e2, e3, e4, Nat.mul_one, List.foldl_cons, List.foldl_nil]
      refine ⟨(by unfold Drw; kernel_rfl), ?_⟩
      exact ⟨_, by omega, (by repeat' (first | assumption | exact within_over.mpr trivial | exact Within.refl _ _ _ | (refine within_ap ?_ rfl rfl) | (refine within_ap0 ?_ rfl))), k + 1, rfl, by omega, by simp only [stB, reduceIte, reduceCtorEq, Nat.reduceEqDiff, Nat.reduceAdd, Nat.reduceMul, Nat.reduceLeDiff, Nat.reduceLT, Nat.reduceSub, Nat.reduceBEq, h6]; rw [wrN (by omega)], by simp only [stB, reduceIte, reduceCtorEq, Nat.reduceEqDiff, Nat.reduceAdd, Nat.reduceMul, Nat.reduceLeDiff, Nat.reduceLT, Nat.reduceSub, Nat.reduceBEq, g2], by simp only [stB, reduceIte, reduceCtorEq, Nat.reduceEqDiff, Nat.reduceAdd, Nat.reduceMul, Nat.reduceLeDiff, Nat.reduceLT, Nat.reduceSub, Nat.reduceBEq, o2, wrF_cells]; rw [e4]⟩
    · have hk8 : k = 8 := by omega
      subst hk8
      have hlt' : ¬ ((8 : Nat) : Int) < 8 := by omega
      have e3 : 0 + 8 ≤ (ckCells (toC fM a b 8)).length := by rw [ckCells_length, toC_length ha hb (by omega)]; omega
      have e4 : (ckCells (toC fM a b 8)).take 8 = ckCells (toC fM a b 8) := List.take_of_length_le (by rw [ckCells_length, toC_length ha hb (by omega)]; omega)
      have e5 : (ckCells (toC fM a b 8)).length = 8 := by rw [ckCells_length, toC_length ha hb (by omega)]
      simp only [↓evP, evB, stB, reduceIte, reduceCtorEq, Nat.reduceEqDiff, Nat.reduceAdd, Nat.reduceMul, Nat.reduceLeDiff, Nat.reduceLT, Nat.reduceSub, Nat.reduceBEq, h6, g2, o2, hlt', e3, e4, e5, wr_new8 (toC_length ha hb (Nat.le_refl 8)), ckCells_dt, pr12]
      rw [toC_all ha hb]
theorem s_rJoin : Spec Tryd.prog 19 (R_zip fJ) := by
  refine sp19 EnvOK.e0 ?_
  rintro ps rs ⟨a, b, rfl, ⟨ha, hb⟩, rfl⟩
  refine ⟨by simp, ?_⟩
  unfold pc19
  refine pwp_start ?_
  simp only [↓evP, evB, stB, reduceIte, reduceCtorEq, Nat.reduceEqDiff, Nat.reduceAdd, Nat.reduceMul, Nat.reduceLeDiff, Nat.reduceLT, Nat.reduceSub, Nat.reduceBEq, ckPa, ckRow_cells]
  refine pwp_loopW ms19_0 os19_0 (fun m st => ∃ k : Nat, m = 8 - k ∧ k ≤ 8 ∧ st.sl 5 = aI k ∧ st.gen 2 = 1 ∧ st.ob 2 = .cells (ckCells (toC fJ a b k))) 8 ?_ ?_
  · exact ⟨0, rfl, Nat.zero_le _, by simp only [stB, reduceIte, reduceCtorEq, Nat.reduceEqDiff, Nat.reduceAdd, Nat.reduceMul, Nat.reduceLeDiff, Nat.reduceLT, Nat.reduceSub, Nat.reduceBEq]; rfl, by simp only [stB, reduceIte, reduceCtorEq, Nat.reduceEqDiff, Nat.reduceAdd, Nat.reduceMul, Nat.reduceLeDiff, Nat.reduceLT, Nat.reduceSub, Nat.reduceBEq], by simp only [stB, reduceIte, reduceCtorEq, Nat.reduceEqDiff, Nat.reduceAdd, Nat.reduceMul, Nat.reduceLeDiff, Nat.reduceLT, Nat.reduceSub, Nat.reduceBEq, toC_zero]⟩
  · rintro m j ⟨k, rfl, hk, h6, g2, o2⟩
    simp only [stB, reduceIte, reduceCtorEq, Nat.reduceEqDiff, Nat.reduceAdd, Nat.reduceMul, Nat.reduceLeDiff, Nat.reduceLT, Nat.reduceSub, Nat.reduceBEq] at h6 g2 o2
    rcases Nat.lt_or_ge k 8 with hlt | hge
    · obtain ⟨x, hx⟩ : ∃ x, a[k]? = some x := ⟨_, List.getElem?_eq_getElem (by omega)⟩
      obtain ⟨y, hy⟩ : ∃ y, b[k]? = some y := ⟨_, List.getElem?_eq_getElem (by omega)⟩
      have hlt' : (k : Int) < 8 := by omega
      have h0 : (0 : Int) ≤ (k : Int) := by omega
      have hlt8 : (k : Int) < ((8 : Nat) : Int) := by omega
      have e1 := ckCells_get _ _ _ (toC_get (f := fJ) ha hb hlt hx)
      have e2 := ckCells_get _ _ _ hy
      have e3 : k + 1 ≤ (ckCells (toC fJ a b k)).length := by rw [ckCells_length, toC_length ha hb hk]; omega
      by_cases hc : y > x
      · have e4 := (ckCells_set (toC fJ a b k) k y (by rw [toC_length ha hb hk]; omega)).trans (congrArg ckCells ((congrArg ((toC fJ a b k).set k) (show y = fJ x y by unfold fJ; rw [if_pos hc])).trans (toC_succ (f := fJ) ha hb hlt hx hy)))
        simp only [↓evP, evB, stB, reduceIte, reduceCtorEq, Nat.reduceEqDiff, Nat.reduceAdd, Nat.reduceMul, Nat.reduceLeDiff, Nat.reduceLT, Nat.reduceSub, Nat.reduceBEq, h6, g2, o2, hlt', hlt8, h0, e1, e2, e3, e4, hc, decide_true, decide_false, Nat.mul_one]
        refine ⟨(by unfold Drw; kernel_rfl), ?_⟩
        exact ⟨_, by omega, (by repeat' (first | assumption | exact within_over.mpr trivial | exact Within.refl _ _ _ | (refine within_ap ?_ rfl rfl) | (refine within_ap0 ?_ rfl))), k + 1, rfl, by omega, by simp only [stB, reduceIte, reduceCtorEq, Nat.reduceEqDiff, Nat.reduceAdd, Nat.reduceMul, Nat.reduceLeDiff, Nat.reduceLT, Nat.reduceSub, Nat.reduceBEq, h6]; rw [wrN (by omega)], by simp only [stB, reduceIte, reduceCtorEq, Nat.reduceEqDiff, Nat.reduceAdd, Nat.reduceMul, Nat.reduceLeDiff, Nat.reduceLT, Nat.reduceSub, Nat.reduceBEq, g2], by simp only [stB, reduceIte, reduceCtorEq, Nat.reduceEqDiff, Nat.reduceAdd, Nat.reduceMul, Nat.reduceLeDiff, Nat.reduceLT, Nat.reduceSub, Nat.reduceBEq, o2, wrF_cells]; rw [e4]⟩
      · have e4 : toC fJ a b k = toC fJ a b (k + 1) := by
          rw [← toC_succ (f := fJ) ha hb hlt hx hy, show fJ x y = x by unfold fJ; rw [if_neg hc]]
          have := toC_get (f := fJ) ha hb hlt hx
          exact (List.ext_getElem? fun i => by
            rw [List.getElem?_set]
            split
            · rename_i h; subst h; rw [this]; simp [toC_length ha hb hk, hlt]
            · rfl)
        simp only [↓evP, evB, stB, reduceIte, reduceCtorEq, Nat.reduceEqDiff, Nat.reduceAdd, Nat.reduceMul, Nat.reduceLeDiff, Nat.reduceLT, Nat.reduceSub, Nat.reduceBEq, h6, g2, o2, hlt', hlt8, h0, e1, e2, e3, hc, decide_true, decide_false, Nat.mul_one]
        refine ⟨(by unfold Drw; kernel_rfl), ?_⟩
        exact ⟨_, by omega, (by repeat' (first | assumption | exact within_over.mpr trivial | exact Within.refl _ _ _ | (refine within_ap ?_ rfl rfl) | (refine within_ap0 ?_ rfl))), k + 1, rfl, by omega, by simp only [stB, reduceIte, reduceCtorEq, Nat.reduceEqDiff, Nat.reduceAdd, Nat.reduceMul, Nat.reduceLeDiff, Nat.reduceLT, Nat.reduceSub, Nat.reduceBEq, h6]; rw [wrN (by omega)], by simp only [stB, reduceIte, reduceCtorEq, Nat.reduceEqDiff, Nat.reduceAdd, Nat.reduceMul, Nat.reduceLeDiff, Nat.reduceLT, Nat.reduceSub, Nat.reduceBEq, g2], by simp only [stB, reduceIte, reduceCtorEq, Nat.reduceEqDiff, Nat.reduceAdd, Nat.reduceMul, Nat.reduceLeDiff, Nat.reduceLT, Nat.reduceSub, Nat.reduceBEq, o2]; rw [← e4]⟩
    · have hk8 : k = 8 := by omega
      subst hk8
      have hlt' : ¬ ((8 : Nat) : Int) < 8 := by omega
      have e3 : 0 + 8 ≤ (ckCells (toC fJ a b 8)).length := by rw [ckCells_length, toC_length ha hb (by omega)]; omega
      have e4 : (ckCells (toC fJ a b 8)).take 8 = ckCells (toC fJ a b 8) := List.take_of_length_le (by rw [ckCells_length, toC_length ha hb (by omega)]; omega)
      have e5 : (ckCells (toC fJ a b 8)).length = 8 := by rw [ckCells_length, toC_length ha hb (by omega)]
      simp only [↓evP, evB, stB, reduceIte, reduceCtorEq, Nat.reduceEqDiff, Nat.reduceAdd, Nat.reduceMul, Nat.reduceLeDiff, Nat.reduceLT, Nat.reduceSub, Nat.reduceBEq, h6, g2, o2, hlt', e3, e4, e5, wr_new8 (toC_length ha hb (Nat.le_refl 8)), ckCells_dt, pr19]
      rw [toC_all ha hb]
theorem s_rMeet : Spec Tryd.prog 14 (R_zip fM) := by
  refine sp14 EnvOK.e0 ?_
  rintro ps rs ⟨a, b, rfl, ⟨ha, hb⟩, rfl⟩
  refine ⟨by simp, ?_⟩
  unfold pc14
  refine pwp_start ?_
  simp only [↓evP, evB, stB, reduceIte, reduceCtorEq, Nat.reduceEqDiff, Nat.reduceAdd, Nat.reduceMul, Nat.reduceLeDiff, Nat.reduceLT, Nat.reduceSub, Nat.reduceBEq, ckPa, ckRow_cells]
  refine pwp_loopW ms14_0 os14_0 (fun m st => ∃ k : Nat, m = 8 - k ∧ k ≤ 8 ∧ st.sl 5 = aI k ∧ st.gen 2 = 1 ∧ st.ob 2 = .cells (ckCells (toC fM a b k))) 8 ?_ ?_
  · exact ⟨0, rfl, Nat.zero_le _, by simp only [stB, reduceIte, reduceCtorEq, Nat.reduceEqDiff, Nat.reduceAdd, Nat.reduceMul, Nat.reduceLeDiff, Nat.reduceLT, Nat.reduceSub, Nat.reduceBEq]; rfl, by simp only [stB, reduceIte, reduceCtorEq, Nat.reduceEqDiff, Nat.reduceAdd, Nat.reduceMul, Nat.reduceLeDiff, Nat.reduceLT, Nat.reduceSub, Nat.reduceBEq], by simp only [stB, reduceIte, reduceCtorEq, Nat.reduceEqDiff, Nat.reduceAdd, Nat.reduceMul, Nat.reduceLeDiff, Nat.reduceLT, Nat.reduceSub, Nat.reduceBEq, toC_zero]⟩
  · rintro m j ⟨k, rfl, hk, h6, g2, o2⟩
    simp only [stB, reduceIte, reduceCtorEq, Nat.reduceEqDiff, Nat.reduceAdd, Nat.reduceMul, Nat.reduceLeDiff, Nat.reduceLT, Nat.reduceSub, Nat.reduceBEq] at h6 g2 o2
    rcases Nat.lt_or_ge k 8 with hlt | hge
    · obtain ⟨x, hx⟩ : ∃ x, a[k]? = some x := ⟨_, List.getElem?_eq_getElem (by omega)⟩
      obtain ⟨y, hy⟩ : ∃ y, b[k]? = some y := ⟨_, List.getElem?_eq_getElem (by omega)⟩
      have hlt' : (k : Int) < 8 := by omega
      have h0 : (0 : Int) ≤ (k : Int) := by omega
      have hlt8 : (k : Int) < ((8 : Nat) : Int) := by omega
      have e1 := ckCells_get _ _ _ (toC_get (f := fM) ha hb hlt hx)
      have e2 := ckCells_get _ _ _ hy
      have e3 : k + 1 ≤ (ckCells (toC fM a b k)).length := by rw [ckCells_length, toC_length ha hb hk]; omega
      by_cases hc : y < x
      · have e4 := (ckCells_set (toC fM a b k) k y (by rw [toC_length ha hb hk]; omega)).trans (congrArg ckCells ((congrArg ((toC fM a b k).set k) (show y = fM x y by unfold fM; rw [if_pos hc])).trans (toC_succ (f := fM) ha hb hlt hx hy)))
        simp only [↓evP, evB, stB, reduceIte, reduceCtorEq, Nat.reduceEqDiff, Nat.reduceAdd, Nat.reduceMul, Nat.reduceLeDiff, Nat.reduceLT, Nat.reduceSub, Nat.reduceBEq, h6, g2, o2, hlt', hlt8, h0, e1, e2, e3, e4, hc, decide_true, decide_false, Nat.mul_one]
        refine ⟨(by unfold Drw; kernel_rfl), ?_⟩
        exact ⟨_, by omega, (by repeat' (first | assumption | exact within_over.mpr trivial | exact Within.refl _ _ _ | (refine within_ap ?_ rfl rfl) | (refine within_ap0 ?_ rfl))), k + 1, rfl, by omega, by simp only [stB, reduceIte, reduceCtorEq, Nat.reduceEqDiff, Nat.reduceAdd, Nat.reduceMul, Nat.reduceLeDiff, Nat.reduceLT, Nat.reduceSub, Nat.reduceBEq, h6]; rw [wrN (by omega)], by simp only [stB, reduceIte, reduceCtorEq, Nat.reduceEqDiff, Nat.reduceAdd, Nat.reduceMul, Nat.reduceLeDiff, Nat.reduceLT, Nat.reduceSub, Nat.reduceBEq, g2], by simp only [stB, reduceIte, reduceCtorEq, Nat.reduceEqDiff, Nat.reduceAdd, Nat.reduceMul, Nat.reduceLeDiff, Nat.reduceLT, Nat.reduceSub, Nat.reduceBEq, o2, wrF_cells]; rw [e4]⟩
      · have e4 : toC fM a b k = toC fM a b (k + 1) := by
          rw [← toC_succ (f := fM) ha hb hlt hx hy, show fM x y = x by unfold fM; rw [if_neg hc]]
          have := toC_get (f := fM) ha hb hlt hx
          exact (List.ext_getElem? fun i => by
            rw [List.getElem?_set]
            split
            · rename_i h; subst h; rw [this]; simp [toC_length ha hb hk, hlt]
            · rfl)
        simp only [↓evP, evB, stB, reduceIte, reduceCtorEq, Nat.reduceEqDiff, Nat.reduceAdd, Nat.reduceMul, Nat.reduceLeDiff, Nat.reduceLT, Nat.reduceSub, Nat.reduceBEq, h6, g2, o2, hlt', hlt8, h0, e1, e2, e3, hc, decide_true, decide_false, Nat.mul_one]
        refine ⟨(by unfold Drw; kernel_rfl), ?_⟩
        exact ⟨_, by omega, (by repeat' (first | assumption | exact within_over.mpr trivial | exact Within.refl _ _ _ | (refine within_ap ?_ rfl rfl) | (refine within_ap0 ?_ rfl))), k + 1, rfl, by omega, by simp only [stB, reduceIte, reduceCtorEq, Nat.reduceEqDiff, Nat.reduceAdd, Nat.reduceMul, Nat.reduceLeDiff, Nat.reduceLT, Nat.reduceSub, Nat.reduceBEq, h6]; rw [wrN (by omega)], by simp only [stB, reduceIte, reduceCtorEq, Nat.reduceEqDiff, Nat.reduceAdd, Nat.reduceMul, Nat.reduceLeDiff, Nat.reduceLT, Nat.reduceSub, Nat.reduceBEq, g2], by simp only [stB, reduceIte, reduceCtorEq, Nat.reduceEqDiff, Nat.reduceAdd, Nat.reduceMul, Nat.reduceLeDiff, Nat.reduceLT, Nat.reduceSub, Nat.reduceBEq, o2]; rw [← e4]⟩
    · have hk8 : k = 8 := by omega
      subst hk8
      have hlt' : ¬ ((8 : Nat) : Int) < 8 := by omega
      have e3 : 0 + 8 ≤ (ckCells (toC fM a b 8)).length := by rw [ckCells_length, toC_length ha hb (by omega)]; omega
      have e4 : (ckCells (toC fM a b 8)).take 8 = ckCells (toC fM a b 8) := List.take_of_length_le (by rw [ckCells_length, toC_length ha hb (by omega)]; omega)
      have e5 : (ckCells (toC fM a b 8)).length = 8 := by rw [ckCells_length, toC_length ha hb (by omega)]
      simp only [↓evP, evB, stB, reduceIte, reduceCtorEq, Nat.reduceEqDiff, Nat.reduceAdd, Nat.reduceMul, Nat.reduceLeDiff, Nat.reduceLT, Nat.reduceSub, Nat.reduceBEq, h6, g2, o2, hlt', e3, e4, e5, wr_new8 (toC_length ha hb (Nat.le_refl 8)), ckCells_dt, pr14]
      rw [toC_all ha hb]

def leqC (a b : Ck) : Bool := (a.zip b).all fun p => decide (p.1 ≤ p.2)
theorem leqC_iff : ∀ {a b : Ck}, a.length = b.length → (zipC fJ a b = b ↔ leqC a b = true)
  | [], [], _ => by simp [zipC, leqC]
  | x :: a, y :: b, h => by
    have ih := leqC_iff (a := a) (b := b) (by simpa using h)
    simp only [zipC, leqC, List.zipWith_cons_cons, List.cons.injEq, List.zip_cons_cons, List.all_cons, Bool.and_eq_true, decide_eq_true_eq] at ih ⊢
    rw [ih]
    have : fJ x y = y ↔ x ≤ y := by unfold fJ; split <;> omega
    rw [this]
theorem leqC_take {a b : Ck} {k : Nat} {x y : Int} (hx : a[k]? = some x) (hy : b[k]? = some y) : leqC (a.take (k + 1)) (b.take (k + 1)) = (leqC (a.take k) (b.take k) && decide (x ≤ y)) := by
  have hk := (List.getElem?_eq_some_iff.1 hx).1
  have hk2 := (List.getElem?_eq_some_iff.1 hy).1
  rw [List.take_add_one, List.take_add_one, hx, hy]
  unfold leqC
  rw [show (some x : Option Int).toList = [x] from rfl, show (some y : Option Int).toList = [y] from rfl, List.zip_append (by rw [List.length_take, List.length_take]; omega)]
  simp
theorem leqC_false {a b : Ck} {k : Nat} {x y : Int} (hx : a[k]? = some x) (hy : b[k]? = some y) (h : ¬ x ≤ y) : leqC a b = false := by
  rw [Bool.eq_false_iff]
  intro h1
  have := List.all_eq_true.1 h1 (x, y) (List.mem_of_getElem? (i := k) (by rw [List.getElem?_zip_eq_some]; exact ⟨hx, hy⟩))
  simp at this
  exact h this
/-- eight numbers are loaded, compared -/
theorem ld8 {a : Ck} (ha : a.length = 8) : 0 + 8 ≤ (ckCells a).length ∧ (ckCells a).take 8 = ckCells a := by
  have h : (ckCells a).length = 8 := by rw [ckCells_length, ha]
  exact ⟨by omega, List.take_of_length_le (by omega)⟩
theorem eq8 {a b : Ck} (ha : a.length = 8) (hb : b.length = 8) : eqCls [false, false, false, false, false, false, false, false] (ckCells a) (ckCells b) = some (decide (a = b)) := by
  have := eqCls_ck (a := a) (b := b) (by omega)
  rw [ha] at this
  exact this
def R_leq (ps rs : List Pa) : Prop := ∃ a b : Ck, ps = [ckPa a, ckPa b] ∧ (a.length = 8 ∧ b.length = 8) ∧ rs = [pB (leqC a b)]
theorem R_leq.mk {a b : Ck} (ha : a.length = 8) (hb : b.length = 8) : R_leq [ckPa a, ckPa b] [pB (leqC a b)] := ⟨a, b, rfl, ⟨ha, hb⟩, rfl⟩
theorem s_cLeq : Spec Tryd.prog 13 R_leq := by
  refine sp13 (EnvOK.e1 s_cJoin EnvOK.e0) ?_
  rintro ps rs ⟨a, b, rfl, ⟨ha, hb⟩, rfl⟩
  refine ⟨by simp, ?_⟩
  obtain ⟨a1, a2⟩ := ld8 ha
  obtain ⟨b1, b2⟩ := ld8 hb
  unfold pc13
  refine pwp_start ?_
  simp only [↓evP, evB, stB, reduceIte, reduceCtorEq, Nat.reduceEqDiff, Nat.reduceAdd, Nat.reduceMul, Nat.reduceLeDiff, Nat.reduceLT, Nat.reduceSub, Nat.reduceBEq, ckPa, ckRow_cells, a1, a2, b1, b2, ckCells_dt]
  refine callD_intro [ckPa (zipC fJ a b)] (by exact R_zip.mk ha hb) ?_
  have e1 := eq8 (zipC_length (f := fJ) ha hb) hb
  have e2 : decide (zipC fJ a b = b) = leqC a b := by rw [Bool.eq_iff_iff, decide_eq_true_eq]; exact leqC_iff (by omega)
  simp only [↓evP, evB, stB, reduceIte, reduceCtorEq, Nat.reduceEqDiff, Nat.reduceAdd, Nat.reduceMul, Nat.reduceLeDiff, Nat.reduceLT, Nat.reduceSub, Nat.reduceBEq, ckPa, ckRow_cells, a1, a2, b1, b2, e1, e2, pr13]
  unfold Drw; refine Eq.trans (b := true) ?_ rfl; kernel_rfl
theorem s_rLeq : Spec Tryd.prog 18 R_leq := by
  refine sp18 EnvOK.e0 ?_
  rintro ps rs ⟨a, b, rfl, ⟨ha, hb⟩, rfl⟩
  refine ⟨by simp, ?_⟩
  unfold pc18
  refine pwp_start ?_
  simp only [↓evP, evB, stB, reduceIte, reduceCtorEq, Nat.reduceEqDiff, Nat.reduceAdd, Nat.reduceMul, Nat.reduceLeDiff, Nat.reduceLT, Nat.reduceSub, Nat.reduceBEq, ckPa, ckRow_cells]
  refine pwp_loopW ms18_0 os18_0 (fun m st => ∃ k : Nat, m = 8 - k ∧ k ≤ 8 ∧ st.sl 5 = aI k ∧ leqC (a.take k) (b.take k) = true) 8 ?_ ?_
  · exact ⟨0, rfl, Nat.zero_le _, by simp only [stB, reduceIte, reduceCtorEq, Nat.reduceEqDiff, Nat.reduceAdd, Nat.reduceMul, Nat.reduceLeDiff, Nat.reduceLT, Nat.reduceSub, Nat.reduceBEq]; rfl, rfl⟩
  · rintro m j ⟨k, rfl, hk, h6, hq⟩
    simp only [stB, reduceIte, reduceCtorEq, Nat.reduceEqDiff, Nat.reduceAdd, Nat.reduceMul, Nat.reduceLeDiff, Nat.reduceLT, Nat.reduceSub, Nat.reduceBEq] at h6
    rcases Nat.lt_or_ge k 8 with hlt | hge
    · obtain ⟨x, hx⟩ : ∃ x, a[k]? = some x := ⟨_, List.getElem?_eq_getElem (by omega)⟩
      obtain ⟨y, hy⟩ : ∃ y, b[k]? = some y := ⟨_, List.getElem?_eq_getElem (by omega)⟩
      have hlt' : (k : Int) < 8 := by omega
      have h0 : (0 : Int) ≤ (k : Int) := by omega
      have hlt8 : (k : Int) < ((8 : Nat) : Int) := by omega
      have e1 := ckCells_get _ _ _ hx
      have e2 := ckCells_get _ _ _ hy
      by_cases hc : x > y
      · have hf := leqC_false hx hy (by omega)
        simp only [↓evP, evB, stB, reduceIte, reduceCtorEq, Nat.reduceEqDiff, Nat.reduceAdd, Nat.reduceMul, Nat.reduceLeDiff, Nat.reduceLT, Nat.reduceSub, Nat.reduceBEq, h6, hlt', hlt8, h0, e1, e2, hc, decide_true, decide_false, Nat.mul_one, pr18]
        refine ⟨(by unfold Drw; kernel_rfl), ?_⟩
        simp only [↓evP, evB, stB, reduceIte, reduceCtorEq, Nat.reduceEqDiff, Nat.reduceAdd, Nat.reduceMul, Nat.reduceLeDiff, Nat.reduceLT, Nat.reduceSub, Nat.reduceBEq, h6, hf, pr18]
      · have e4 := leqC_take hx hy
        rw [hq, show decide (x ≤ y) = true from decide_eq_true (by omega)] at e4
        simp only [↓evP, evB, stB, reduceIte, reduceCtorEq, Nat.reduceEqDiff, Nat.reduceAdd, Nat.reduceMul, Nat.reduceLeDiff, Nat.reduceLT, Nat.reduceSub, Nat.reduceBEq, h6, hlt', hlt8, h0, e1, e2, hc, decide_true, decide_false, Nat.mul_one]
        refine ⟨(by unfold Drw; kernel_rfl), ?_⟩
        exact ⟨_, by omega, (by repeat' (first | assumption | exact within_over.mpr trivial | exact Within.refl _ _ _ | (refine within_ap ?_ rfl rfl) | (refine within_ap0 ?_ rfl))), k + 1, rfl, by omega, by simp only [stB, reduceIte, reduceCtorEq, Nat.reduceEqDiff, Nat.reduceAdd, Nat.reduceMul, Nat.reduceLeDiff, Nat.reduceLT, Nat.reduceSub, Nat.reduceBEq, h6]; rw [wrN (by omega)], e4⟩
    · have hk8 : k = 8 := by omega
      subst hk8
      have hlt' : ¬ ((8 : Nat) : Int) < 8 := by omega
      rw [List.take_of_length_le (by omega), List.take_of_length_le (by omega)] at hq
      simp only [↓evP, evB, stB, reduceIte, reduceCtorEq, Nat.reduceEqDiff, Nat.reduceAdd, Nat.reduceMul, Nat.reduceLeDiff, Nat.reduceLT, Nat.reduceSub, Nat.reduceBEq, h6, hlt', hq, pr18]

def cmpC (a b : Ck) : Int × Bool := if a = b then (0, true) else if leqC a b = true then (-1, true) else if leqC b a = true then (1, true) else (0, false)
def R_cmp (ps rs : List Pa) : Prop := ∃ a b : Ck, ps = [ckPa a, ckPa b] ∧ (a.length = 8 ∧ b.length = 8) ∧ rs = [pI (cmpC a b).1, pB (cmpC a b).2]
theorem R_cmp.mk {a b : Ck} (ha : a.length = 8) (hb : b.length = 8) : R_cmp [ckPa a, ckPa b] [pI (cmpC a b).1, pB (cmpC a b).2] := ⟨a, b, rfl, ⟨ha, hb⟩, rfl⟩

theorem s_cCompare : Spec Tryd.prog 16 R_cmp := by
  refine sp16 (EnvOK.e1 s_cLeq EnvOK.e0) ?_
  rintro ps rs ⟨a, b, rfl, ⟨ha, hb⟩, rfl⟩
  refine ⟨by simp, ?_⟩
  obtain ⟨a1, a2⟩ := ld8 ha
  obtain ⟨b1, b2⟩ := ld8 hb
  have e1 := eq8 ha hb
  unfold pc16
  refine pwp_start ?_
  simp only [↓evP, evB, stB, reduceIte, reduceCtorEq, Nat.reduceEqDiff, Nat.reduceAdd, Nat.reduceMul, Nat.reduceLeDiff, Nat.reduceLT, Nat.reduceSub, Nat.reduceBEq, ckPa, ckRow_cells, a1, a2, b1, b2, e1]
  by_cases hab : a = b
  · simp only [↓evP, evB, stB, reduceIte, reduceCtorEq, Nat.reduceEqDiff, Nat.reduceAdd, Nat.reduceMul, Nat.reduceLeDiff, Nat.reduceLT, Nat.reduceSub, Nat.reduceBEq, hab, decide_true, cmpC, pI, pB, pr16]
  · simp only [↓evP, evB, stB, reduceIte, reduceCtorEq, Nat.reduceEqDiff, Nat.reduceAdd, Nat.reduceMul, Nat.reduceLeDiff, Nat.reduceLT, Nat.reduceSub, Nat.reduceBEq, hab, decide_false, a1, a2, b1, b2, ckCells_dt, cmpC]
    refine callOps_intro [pB (leqC a b)] (by exact R_leq.mk ha hb) ?_
    cases h1 : leqC a b with
    | true => simp only [↓evP, evB, stB, reduceIte, reduceCtorEq, Nat.reduceEqDiff, Nat.reduceAdd, Nat.reduceMul, Nat.reduceLeDiff, Nat.reduceLT, Nat.reduceSub, Nat.reduceBEq, pI, pB, pr16]
    | false =>
      simp only [↓evP, evB, stB, reduceIte, reduceCtorEq, Nat.reduceEqDiff, Nat.reduceAdd, Nat.reduceMul, Nat.reduceLeDiff, Nat.reduceLT, Nat.reduceSub, Nat.reduceBEq, a1, a2, b1, b2, ckCells_dt]
      refine callOps_intro [pB (leqC b a)] (by exact R_leq.mk hb ha) ?_
      cases h2 : leqC b a with
      | true => simp only [↓evP, evB, stB, reduceIte, reduceCtorEq, Nat.reduceEqDiff, Nat.reduceAdd, Nat.reduceMul, Nat.reduceLeDiff, Nat.reduceLT, Nat.reduceSub, Nat.reduceBEq, pI, pB, pr16]
      | false => simp only [↓evP, evB, stB, reduceIte, reduceCtorEq, Nat.reduceEqDiff, Nat.reduceAdd, Nat.reduceMul, Nat.reduceLeDiff, Nat.reduceLT, Nat.reduceSub, Nat.reduceBEq, pI, pB, pr16]

theorem s_rCompare : Spec Tryd.prog 17 R_cmp := by
  refine sp17 (EnvOK.e1 s_rLeq EnvOK.e0) ?_
  rintro ps rs ⟨a, b, rfl, ⟨ha, hb⟩, rfl⟩
  refine ⟨by simp, ?_⟩
  obtain ⟨a1, a2⟩ := ld8 ha
  obtain ⟨b1, b2⟩ := ld8 hb
  have e1 := eq8 ha hb
  unfold pc17
  refine pwp_start ?_
  simp only [↓evP, evB, stB, reduceIte, reduceCtorEq, Nat.reduceEqDiff, Nat.reduceAdd, Nat.reduceMul, Nat.reduceLeDiff, Nat.reduceLT, Nat.reduceSub, Nat.reduceBEq, ckPa, ckRow_cells, a1, a2, b1, b2, e1]
  by_cases hab : a = b
  · simp only [↓evP, evB, stB, reduceIte, reduceCtorEq, Nat.reduceEqDiff, Nat.reduceAdd, Nat.reduceMul, Nat.reduceLeDiff, Nat.reduceLT, Nat.reduceSub, Nat.reduceBEq, hab, decide_true, cmpC, pI, pB, pr17]
  · simp only [↓evP, evB, stB, reduceIte, reduceCtorEq, Nat.reduceEqDiff, Nat.reduceAdd, Nat.reduceMul, Nat.reduceLeDiff, Nat.reduceLT, Nat.reduceSub, Nat.reduceBEq, hab, decide_false, a1, a2, b1, b2, ckCells_dt, cmpC]
    refine callOps_intro [pB (leqC a b)] (by exact R_leq.mk ha hb) ?_
    cases h1 : leqC a b with
    | true => simp only [↓evP, evB, stB, reduceIte, reduceCtorEq, Nat.reduceEqDiff, Nat.reduceAdd, Nat.reduceMul, Nat.reduceLeDiff, Nat.reduceLT, Nat.reduceSub, Nat.reduceBEq, pI, pB, pr17]
    | false =>
      simp only [↓evP, evB, stB, reduceIte, reduceCtorEq, Nat.reduceEqDiff, Nat.reduceAdd, Nat.reduceMul, Nat.reduceLeDiff, Nat.reduceLT, Nat.reduceSub, Nat.reduceBEq, a1, a2, b1, b2, ckCells_dt]
      refine callOps_intro [pB (leqC b a)] (by exact R_leq.mk hb ha) ?_
      cases h2 : leqC b a with
      | true => simp only [↓evP, evB, stB, reduceIte, reduceCtorEq, Nat.reduceEqDiff, Nat.reduceAdd, Nat.reduceMul, Nat.reduceLeDiff, Nat.reduceLT, Nat.reduceSub, Nat.reduceBEq, pI, pB, pr17]
      | false => simp only [↓evP, evB, stB, reduceIte, reduceCtorEq, Nat.reduceEqDiff, Nat.reduceAdd, Nat.reduceMul, Nat.reduceLeDiff, Nat.reduceLT, Nat.reduceSub, Nat.reduceBEq, pI, pB, pr17]
end Go.Proofs.YthnjbnfnljjepaaDoor
end
section
set_option linter.unusedSimpArgs false
set_option linter.unusedVariables false
namespace Go.Proofs.YthnjbnfnljjepaaDoor
open Go Go.RowKit
set_option maxRecDepth 100000
set_option maxHeartbeats 4000000

def tickC (c : Ck) (g : Int) : Ck := if 0 ≤ g ∧ g < 8 ∧ c.getD g.toNat 0 < 9223372036854775807 then c.set g.toNat (c.getD g.toNat 0 + 1) else c
theorem tickC_length {c : Ck} {g : Int} : (tickC c g).length = c.length := by unfold tickC; split <;> simp
theorem tick_get {c : Ck} (hc : c.length = 8) {g : Int} (h0 : 0 ≤ g) (h8 : g < 8) : c[g.toNat]? = some (c.getD g.toNat 0) := by
  rw [List.getD_eq_getElem?_getD, List.getElem?_eq_getElem (show g.toNat < c.length by omega)]; rfl
def OK64 (c : Ck) : Prop := ∀ x, x ∈ c → -9223372036854775808 ≤ x ∧ x ≤ 9223372036854775807
def R_tick (ps rs : List Pa) : Prop := ∃ (c : Ck) (g : Int), ps = [ckPa c, pI g] ∧ (c.length = 8 ∧ OK64 c) ∧ rs = [ckPa (tickC c g)]
theorem R_tick.mk {c : Ck} {g : Int} (h : c.length = 8) (ho : OK64 c) : R_tick [ckPa c, pI g] [ckPa (tickC c g)] := ⟨c, g, rfl, ⟨h, ho⟩, rfl⟩
theorem s_cTick : Spec Tryd.prog 20 R_tick := by
  refine sp20 EnvOK.e0 ?_
  rintro ps rs ⟨c, g, rfl, ⟨hc, ho⟩, rfl⟩
  refine ⟨by simp, ?_⟩
  obtain ⟨a1, a2⟩ := ld8 hc
  have a5 : (ckCells c).length = 8 := by rw [ckCells_length, hc]
  unfold pc20
  refine pwp_start ?_
  simp only [↓evP, evB, stB, reduceIte, reduceCtorEq, Nat.reduceEqDiff, Nat.reduceAdd, Nat.reduceMul, Nat.reduceLeDiff, Nat.reduceLT, Nat.reduceSub, Nat.reduceBEq, ckPa, ckRow_cells]
  have done : tickC c g = c → True := fun _ => trivial
  by_cases h0 : g ≥ 0
  case neg =>
    have ht : tickC c g = c := by unfold tickC; rw [if_neg (by omega)]
    simp only [↓evP, evB, stB, reduceIte, reduceCtorEq, Nat.reduceEqDiff, Nat.reduceAdd, Nat.reduceMul, Nat.reduceLeDiff, Nat.reduceLT, Nat.reduceSub, Nat.reduceBEq, h0, decide_false, a1, a2, a5, wr_new8 hc, ckCells_dt, ht, pr20]
  by_cases h8 : g < 8
  case neg =>
    have ht : tickC c g = c := by unfold tickC; rw [if_neg (by omega)]
    simp only [↓evP, evB, stB, reduceIte, reduceCtorEq, Nat.reduceEqDiff, Nat.reduceAdd, Nat.reduceMul, Nat.reduceLeDiff, Nat.reduceLT, Nat.reduceSub, Nat.reduceBEq, h0, h8, decide_true, decide_false, a1, a2, a5, wr_new8 hc, ckCells_dt, ht, pr20]
  have hg := tick_get hc h0 h8
  have e1 := ckCells_get _ _ _ hg
  have h8' : g < ((8 : Nat) : Int) := by omega
  have h0' : 0 ≤ g := h0
  by_cases hm : c.getD g.toNat 0 < 9223372036854775807
  · have ht : tickC c g = c.set g.toNat (c.getD g.toNat 0 + 1) := by unfold tickC; rw [if_pos ⟨h0, h8, hm⟩]
    have hw : IntKind.i64.wrap (c.getD g.toNat 0 + 1) = c.getD g.toNat 0 + 1 := wr64 (by have := (ho _ (List.mem_of_getElem? hg)).1; omega) (by omega)
    have e4 := ckCells_set c g.toNat (c.getD g.toNat 0 + 1) (by omega)
    have e3 : g.toNat + 1 ≤ (ckCells c).length := by omega
    have l2 : (c.set g.toNat (c.getD g.toNat 0 + 1)).length = 8 := by rw [List.length_set, hc]
    obtain ⟨b1, b2⟩ := ld8 l2
    have b5 : (ckCells (c.set g.toNat (c.getD g.toNat 0 + 1))).length = 8 := by rw [ckCells_length, l2]
    simp only [↓evP, evB, stB, reduceIte, reduceCtorEq, Nat.reduceEqDiff, Nat.reduceAdd, Nat.reduceMul, Nat.reduceLeDiff, Nat.reduceLT, Nat.reduceSub, Nat.reduceBEq, h0, h0', h8, h8', hm, e1, e3, hw, Nat.mul_one, decide_true, decide_false, wrF_cells, e4, b1, b2, b5, wr_new8 l2, ckCells_dt, ht, pr20]
  · have ht : tickC c g = c := by unfold tickC; rw [if_neg (by omega)]
    simp only [↓evP, evB, stB, reduceIte, reduceCtorEq, Nat.reduceEqDiff, Nat.reduceAdd, Nat.reduceMul, Nat.reduceLeDiff, Nat.reduceLT, Nat.reduceSub, Nat.reduceBEq, h0, h0', h8, h8', hm, e1, Nat.mul_one, decide_true, decide_false, a1, a2, a5, wr_new8 hc, ckCells_dt, ht, pr20]
theorem s_rTick : Spec Tryd.prog 21 R_tick := by
  refine sp21 EnvOK.e0 ?_
  rintro ps rs ⟨c, g, rfl, ⟨hc, ho⟩, rfl⟩
  refine ⟨by simp, ?_⟩
  obtain ⟨a1, a2⟩ := ld8 hc
  have a5 : (ckCells c).length = 8 := by rw [ckCells_length, hc]
  unfold pc21
  refine pwp_start ?_
  simp only [↓evP, evB, stB, reduceIte, reduceCtorEq, Nat.reduceEqDiff, Nat.reduceAdd, Nat.reduceMul, Nat.reduceLeDiff, Nat.reduceLT, Nat.reduceSub, Nat.reduceBEq, ckPa, ckRow_cells]
  by_cases h0 : g < 0
  · have ht : tickC c g = c := by unfold tickC; rw [if_neg (by omega)]
    simp only [↓evP, evB, stB, reduceIte, reduceCtorEq, Nat.reduceEqDiff, Nat.reduceAdd, Nat.reduceMul, Nat.reduceLeDiff, Nat.reduceLT, Nat.reduceSub, Nat.reduceBEq, h0, decide_true, a1, a2, a5, wr_new8 hc, ckCells_dt, ht, pr21]
  by_cases h8 : g ≥ 8
  · have ht : tickC c g = c := by unfold tickC; rw [if_neg (by omega)]
    simp only [↓evP, evB, stB, reduceIte, reduceCtorEq, Nat.reduceEqDiff, Nat.reduceAdd, Nat.reduceMul, Nat.reduceLeDiff, Nat.reduceLT, Nat.reduceSub, Nat.reduceBEq, h0, h8, decide_true, decide_false, a1, a2, a5, wr_new8 hc, ckCells_dt, ht, pr21]
  have h0' : 0 ≤ g := by omega
  have h8' : g < ((8 : Nat) : Int) := by omega
  have hg := tick_get hc h0' (by omega)
  have e1 := ckCells_get _ _ _ hg
  cases hm : (c.getD g.toNat 0 == 9223372036854775807) with
  | false =>
    have hb := ho _ (List.mem_of_getElem? hg)
    have hm' : c.getD g.toNat 0 < 9223372036854775807 := by simp only [beq_eq_false_iff_ne, ne_eq] at hm; omega
    have ht : tickC c g = c.set g.toNat (c.getD g.toNat 0 + 1) := by unfold tickC; rw [if_pos ⟨h0', by omega, hm'⟩]
    have hw : IntKind.i64.wrap (c.getD g.toNat 0 + 1) = c.getD g.toNat 0 + 1 := wr64 (by omega) (by omega)
    have e4 := ckCells_set c g.toNat (c.getD g.toNat 0 + 1) (by omega)
    have e3 : g.toNat + 1 ≤ (ckCells c).length := by omega
    have l2 : (c.set g.toNat (c.getD g.toNat 0 + 1)).length = 8 := by rw [List.length_set, hc]
    obtain ⟨b1, b2⟩ := ld8 l2
    have b5 : (ckCells (c.set g.toNat (c.getD g.toNat 0 + 1))).length = 8 := by rw [ckCells_length, l2]
    simp only [↓evP, evB, stB, reduceIte, reduceCtorEq, Nat.reduceEqDiff, Nat.reduceAdd, Nat.reduceMul, Nat.reduceLeDiff, Nat.reduceLT, Nat.reduceSub, Nat.reduceBEq, h0, h0', h8, h8', hm, e1, e3, hw, Nat.mul_one, decide_true, decide_false, wrF_cells, e4, b1, b2, b5, wr_new8 l2, ckCells_dt, ht, pr21]
  | true =>
    have hm' := beq_iff_eq.1 hm
    have ht : tickC c g = c := by unfold tickC; rw [if_neg (by omega)]
    simp only [↓evP, evB, stB, reduceIte, reduceCtorEq, Nat.reduceEqDiff, Nat.reduceAdd, Nat.reduceMul, Nat.reduceLeDiff, Nat.reduceLT, Nat.reduceSub, Nat.reduceBEq, h0, h0', h8, h8', hm, e1, Nat.mul_one, decide_true, decide_false, a1, a2, a5, wr_new8 hc, ckCells_dt, ht, pr21]
end Go.Proofs.YthnjbnfnljjepaaDoor
end
section
set_option linter.unusedSimpArgs false
set_option linter.unusedVariables false
namespace Go.Proofs.YthnjbnfnljjepaaDoor
open Go Go.RowKit
set_option maxRecDepth 100000
set_option maxHeartbeats 4000000

/-- the number of components that a text has -/
def trimN (c : Ck) : Nat → Nat
  | 0 => 0
  | n + 1 => if c.getD n 0 = 0 then trimN c n else n + 1
def tn (c : Ck) : Nat := trimN c 8
theorem trimN_le (c : Ck) (n : Nat) : trimN c n ≤ n := by
  induction n with
  | zero => exact Nat.le_refl _
  | succ n ih => unfold trimN; split <;> omega
def wordsL (c : Ck) : List (List UInt8) := (c.take (tn c)).map Lib.itoa
def ctext (c : Ck) : List UInt8 := 91 :: (Lib.join (wordsL c) [32] ++ [93])
theorem lens_words {c : Ck} (ho : OK64 c) : Lib.lens (c.map Lib.itoa) ≤ 21 * c.length := by
  induction c with
  | nil => simp [Lib.lens]
  | cons x c ih =>
    have h1 := ih (fun y hy => ho y (List.mem_cons_of_mem _ hy))
    have h2 := Lib.itoa_length_le x (ho x (by simp)).1 (ho x (by simp)).2
    simp only [List.map_cons, Lib.lens, List.length_cons] at *
    simp at *
    omega
theorem OK64.take {c : Ck} (h : OK64 c) (n : Nat) : OK64 (c.take n) := fun x hx => h x (List.mem_of_mem_take hx)
theorem join_le {c : Ck} (hc : c.length = 8) (ho : OK64 c) : (Lib.join (wordsL c) [32]).length ≤ 300 := by
  have h1 := lens_words (ho.take (tn c))
  have h2 := trimN_le c 8
  unfold wordsL
  have h3 : (c.take (tn c)).length ≤ 8 := by rw [List.length_take]; omega
  cases hq : (c.take (tn c)).map Lib.itoa with
  | nil => simp [Lib.join_nil]
  | cons x r =>
    rw [Lib.join_length, ← hq]
    have h4 : r.length + 1 = (c.take (tn c)).length := by rw [← List.length_cons (a := x), ← hq, List.length_map]
    simp only [List.length_cons, List.length_nil]
    omega
theorem strB_append (a b : List UInt8) : strB a ++ strB b = strB (a ++ b) := strB_inj (by simp [strB])
theorem strB_size (a : List UInt8) : (strB a).size = a.length := by
  show (a.toArray).size = _
  simp
def R_text (ps rs : List Pa) : Prop := ∃ c : Ck, ps = [ckPa c] ∧ (c.length = 8 ∧ OK64 c) ∧ rs = [pS (strB (ctext c))]
theorem R_text.mk {c : Ck} (h : c.length = 8) (ho : OK64 c) : R_text [ckPa c] [pS (strB (ctext c))] := ⟨c, rfl, ⟨h, ho⟩, rfl⟩
def env_ctext : Env := e1 26 R_itoa (e1 27 R_join e0)
theorem env_ctext_ok : EnvOK Tryd.prog env_ctext := EnvOK.e1 s_itoa (EnvOK.e1 s_join EnvOK.e0)
theorem s_cText : Spec Tryd.prog 22 R_text := by
  refine sp22 env_ctext_ok ?_
  rintro ps rs ⟨c, rfl, ⟨hc, ho⟩, rfl⟩
  refine ⟨by simp, ?_⟩
  have a5 : (ckCells c).length = 8 := by rw [ckCells_length, hc]
  unfold pc22
  refine pwp_start ?_
  simp only [↓evP, evB, stB, reduceIte, reduceCtorEq, Nat.reduceEqDiff, Nat.reduceAdd, Nat.reduceMul, Nat.reduceLeDiff, Nat.reduceLT, Nat.reduceSub, Nat.reduceBEq, ckPa, ckRow_cells]
  refine pwp_loopW ms22_0 os22_0 (fun m st => m ≤ 8 ∧ st.sl 3 = aI m ∧ trimN c m = tn c) 8 ?_ ?_
  · exact ⟨Nat.le_refl _, by simp only [stB, reduceIte, reduceCtorEq, Nat.reduceEqDiff, Nat.reduceAdd, Nat.reduceMul, Nat.reduceLeDiff, Nat.reduceLT, Nat.reduceSub, Nat.reduceBEq]; rfl, rfl⟩
  · rintro m j ⟨hm, h3, ht⟩
    simp only [stB, reduceIte, reduceCtorEq, Nat.reduceEqDiff, Nat.reduceAdd, Nat.reduceMul, Nat.reduceLeDiff, Nat.reduceLT, Nat.reduceSub, Nat.reduceBEq] at h3
    by_cases h00 : (m : Int) > 0
    case neg =>
      have hnn : (0 : Int) ≤ (m : Int) := by omega
      have hle : (m : Int) ≤ ((8 : Nat) : Int) := by omega
      have h1000 : 8 ≤ 1000000 := by omega
      have hq : m = tn c := by rw [← ht]; have : m = 0 := by omega
                               rw [this]; rfl
      simp only [↓evP, evB, stB, reduceIte, reduceCtorEq, Nat.reduceEqDiff, Nat.reduceAdd, Nat.reduceMul, Nat.reduceLeDiff, Nat.reduceLT, Nat.reduceSub, Nat.reduceBEq, h3, h00, decide_false, hnn, hle, h1000, pr22]
      refine pwp_loopW ms22_1 os22_1 (fun q st => ∃ k : Nat, q = m - k ∧ k ≤ m ∧ st.sl 21 = aI k ∧ st.gen 4 = 1 ∧ st.sl 4 = .b (.one (.own 4 1 (rowsS (((c.take m).take k).map fun v => strB (Lib.itoa v))))) ∧ st.ob 4 = .row 9 1 k) m ?_ ?_
      · exact ⟨0, rfl, Nat.zero_le _, by simp only [stB, reduceIte, reduceCtorEq, Nat.reduceEqDiff, Nat.reduceAdd, Nat.reduceMul, Nat.reduceLeDiff, Nat.reduceLT, Nat.reduceSub, Nat.reduceBEq]; rfl, by simp only [stB, reduceIte, reduceCtorEq, Nat.reduceEqDiff, Nat.reduceAdd, Nat.reduceMul, Nat.reduceLeDiff, Nat.reduceLT, Nat.reduceSub, Nat.reduceBEq], by simp only [stB, reduceIte, reduceCtorEq, Nat.reduceEqDiff, Nat.reduceAdd, Nat.reduceMul, Nat.reduceLeDiff, Nat.reduceLT, Nat.reduceSub, Nat.reduceBEq, List.take_zero, List.map_nil], by simp only [stB, reduceIte, reduceCtorEq, Nat.reduceEqDiff, Nat.reduceAdd, Nat.reduceMul, Nat.reduceLeDiff, Nat.reduceLT, Nat.reduceSub, Nat.reduceBEq]⟩
      · rintro q j2 ⟨k, rfl, hk, h21, g4, h4, o4⟩
        simp only [stB, reduceIte, reduceCtorEq, Nat.reduceEqDiff, Nat.reduceAdd, Nat.reduceMul, Nat.reduceLeDiff, Nat.reduceLT, Nat.reduceSub, Nat.reduceBEq] at h21 g4 h4 o4
        rcases Nat.lt_or_ge k (m) with hlt | hge
        · obtain ⟨x, hx⟩ : ∃ x, c[k]? = some x := ⟨_, List.getElem?_eq_getElem (by omega)⟩
          have hlt' : (k : Int) < ((m : Nat) : Int) := by omega
          have h0 : (0 : Int) ≤ (k : Int) := by omega
          have e1 := ckCells_get _ _ _ hx
          have hlen : (rowsS (((c.take m).take k).map fun v => strB (Lib.itoa v))).length = k := by simp [rowsS, hc]; omega
          have e6 : rowsS (((c.take m).take k).map fun v => strB (Lib.itoa v)) ++ [[Dt.sc (.string (strB (Lib.itoa x)))]] = rowsS (((c.take m).take (k + 1)).map fun v => strB (Lib.itoa v)) := by
            rw [List.take_add_one (i := k), List.getElem?_take, if_pos hlt, hx]
            simp [rowsS]
          have hb : k + 1 ≤ 1000000 := by omega
          simp only [↓evP, evB, stB, reduceIte, reduceCtorEq, Nat.reduceEqDiff, Nat.reduceAdd, Nat.reduceMul, Nat.reduceLeDiff, Nat.reduceLT, Nat.reduceSub, Nat.reduceBEq, h21, g4, h4, o4, hlt', h0, e1, Nat.mul_one, Nat.zero_add]
          refine callOps_intro [pS (strB (Lib.itoa x))] ⟨x, ho x (List.mem_of_getElem? hx), rfl, rfl⟩ ?_
          simp only [↓evP, evB, stB, reduceIte, reduceCtorEq, Nat.reduceEqDiff, Nat.reduceAdd, Nat.reduceMul, Nat.reduceLeDiff, Nat.reduceLT, Nat.reduceSub, Nat.reduceBEq, h21, g4, h4, o4, hlen, hb]
          exact ⟨_, by omega, (by repeat' (first | assumption | exact within_over.mpr trivial | exact Within.refl _ _ _ | (refine within_ap ?_ rfl rfl) | (refine within_ap0 ?_ rfl))), k + 1, rfl, by omega, by simp only [stB, reduceIte, reduceCtorEq, Nat.reduceEqDiff, Nat.reduceAdd, Nat.reduceMul, Nat.reduceLeDiff, Nat.reduceLT, Nat.reduceSub, Nat.reduceBEq, h21]; rw [wrN (by omega)], by simp only [stB, reduceIte, reduceCtorEq, Nat.reduceEqDiff, Nat.reduceAdd, Nat.reduceMul, Nat.reduceLeDiff, Nat.reduceLT, Nat.reduceSub, Nat.reduceBEq, g4], by simp only [stB, reduceIte, reduceCtorEq, Nat.reduceEqDiff, Nat.reduceAdd, Nat.reduceMul, Nat.reduceLeDiff, Nat.reduceLT, Nat.reduceSub, Nat.reduceBEq, h4]; rw [e6], by simp only [stB, reduceIte, reduceCtorEq, Nat.reduceEqDiff, Nat.reduceAdd, Nat.reduceMul, Nat.reduceLeDiff, Nat.reduceLT, Nat.reduceSub, Nat.reduceBEq, o4]⟩
        · have hkl : k = m := by omega
          rw [hkl] at h21 h4 o4
          have hlt' : ¬ ((m : Nat) : Int) < ((m : Nat) : Int) := by omega
          rw [List.take_take, Nat.min_self] at h4
          simp only [↓evP, evB, stB, reduceIte, reduceCtorEq, Nat.reduceEqDiff, Nat.reduceAdd, Nat.reduceMul, Nat.reduceLeDiff, Nat.reduceLT, Nat.reduceSub, Nat.reduceBEq, h21, g4, h4, o4, hlt']
          have hw : ((c.take (m)).map fun v => strB (Lib.itoa v)).map (·.data.toList) = wordsL c := by
            rw [List.map_map, wordsL, ← hq]
            exact List.map_congr_left fun _ _ => rfl
          refine callOps_intro [pS (strB (Lib.join (wordsL c) [32]))] ⟨(c.take (m)).map fun v => strB (Lib.itoa v), strB [32], by simp; omega, by rw [hw]; have := join_le hc ho; show (Lib.join (wordsL c) [32]).length ≤ _; omega, rfl, by rw [hw]⟩ ?_
          have b1 : (((⟨#[91]⟩ : ByteArray).size + (strB (Lib.join (wordsL c) [32])).size : Nat) : Int) ≤ 9223372036854775807 := by rw [show (⟨#[91]⟩ : ByteArray).size = 1 from rfl, strB_size (Lib.join (wordsL c) [32])]; have := join_le hc ho; omega
          have b2 : (((⟨#[91]⟩ ++ strB (Lib.join (wordsL c) [32]) : ByteArray).size + (⟨#[93]⟩ : ByteArray).size : Nat) : Int) ≤ 9223372036854775807 := by
            rw [show (⟨#[91]⟩ : ByteArray) = strB [91] from rfl, strB_append, strB_size]; have := join_le hc ho; show ((_ + (1 : Nat) : Nat) : Int) ≤ _; simp only [List.length_append, List.length_cons, List.length_nil]; omega
          have b3 : (⟨#[91]⟩ ++ strB (Lib.join (wordsL c) [32]) : ByteArray) ++ (⟨#[93]⟩ : ByteArray) = strB (ctext c) := by
            rw [show (⟨#[91]⟩ : ByteArray) = strB [91] from rfl, show (⟨#[93]⟩ : ByteArray) = strB [93] from rfl, strB_append, strB_append]
            simp [ctext]
          simp only [↓evP, evB, stB, reduceIte, reduceCtorEq, Nat.reduceEqDiff, Nat.reduceAdd, Nat.reduceMul, Nat.reduceLeDiff, Nat.reduceLT, Nat.reduceSub, Nat.reduceBEq, b1, b2, b3, pS, pr22]
    cases m with
    | zero => exact absurd h00 (by omega)
    | succ n =>
      have h00 : ((n + 1 : Nat) : Int) > 0 := by omega
      have hw1 : IntKind.i64.wrap (((n + 1 : Nat) : Int) - 1) = (n : Int) := by rw [wr64 (by omega) (by omega)]; omega
      have h0' : (0 : Int) ≤ (n : Int) := by omega
      have hl8 : (n : Int) < ((8 : Nat) : Int) := by omega
      obtain ⟨x, hx⟩ : ∃ x, c[n]? = some x := ⟨_, List.getElem?_eq_getElem (by omega)⟩
      have e1 := ckCells_get _ _ _ hx
      have hgd : c.getD n 0 = x := by rw [List.getD_eq_getElem?_getD, hx]; rfl
      unfold trimN at ht
      rw [hgd] at ht
      by_cases hz : x = 0
      · subst hz
        rw [if_pos rfl] at ht
        have e2 : ((0 : Int) == 0) = true := rfl
        simp only [↓evP, evB, stB, reduceIte, reduceCtorEq, Nat.reduceEqDiff, Nat.reduceAdd, Nat.reduceMul, Nat.reduceLeDiff, Nat.reduceLT, Nat.reduceSub, Nat.reduceBEq, h3, h00, hw1, h0', hl8, e1, e2, decide_true, Nat.mul_one, Nat.zero_add, Int.toNat_natCast]
        exact ⟨n, by omega, (by repeat' (first | assumption | exact within_over.mpr trivial | exact Within.refl _ _ _ | (refine within_ap ?_ rfl rfl) | (refine within_ap0 ?_ rfl))), by omega, by simp only [stB, reduceIte, reduceCtorEq, Nat.reduceEqDiff, Nat.reduceAdd, Nat.reduceMul, Nat.reduceLeDiff, Nat.reduceLT, Nat.reduceSub, Nat.reduceBEq, h3, hw1], ht⟩
      · rw [if_neg hz] at ht
        have e2 : (x == 0) = false := beq_eq_false_iff_ne.2 hz
        have hnn : (0 : Int) ≤ ((n + 1 : Nat) : Int) := by omega
        have hle : ((n + 1 : Nat) : Int) ≤ ((8 : Nat) : Int) := by omega
        have h1000 : 8 ≤ 1000000 := by omega
        have hq : n + 1 = tn c := ht
        simp only [↓evP, evB, stB, reduceIte, reduceCtorEq, Nat.reduceEqDiff, Nat.reduceAdd, Nat.reduceMul, Nat.reduceLeDiff, Nat.reduceLT, Nat.reduceSub, Nat.reduceBEq, h3, h00, hw1, h0', hl8, e1, e2, decide_true, decide_false, Nat.mul_one, Nat.zero_add, Int.toNat_natCast, hnn, hle, h1000, pr22]
        refine pwp_loopW ms22_1 os22_1 (fun q st => ∃ k : Nat, q = (n + 1) - k ∧ k ≤ (n + 1) ∧ st.sl 21 = aI k ∧ st.gen 4 = 1 ∧ st.sl 4 = .b (.one (.own 4 1 (rowsS (((c.take (n + 1)).take k).map fun v => strB (Lib.itoa v))))) ∧ st.ob 4 = .row 9 1 k) (n + 1) ?_ ?_
        · exact ⟨0, rfl, Nat.zero_le _, by simp only [stB, reduceIte, reduceCtorEq, Nat.reduceEqDiff, Nat.reduceAdd, Nat.reduceMul, Nat.reduceLeDiff, Nat.reduceLT, Nat.reduceSub, Nat.reduceBEq]; rfl, by simp only [stB, reduceIte, reduceCtorEq, Nat.reduceEqDiff, Nat.reduceAdd, Nat.reduceMul, Nat.reduceLeDiff, Nat.reduceLT, Nat.reduceSub, Nat.reduceBEq], by simp only [stB, reduceIte, reduceCtorEq, Nat.reduceEqDiff, Nat.reduceAdd, Nat.reduceMul, Nat.reduceLeDiff, Nat.reduceLT, Nat.reduceSub, Nat.reduceBEq, List.take_zero, List.map_nil], by simp only [stB, reduceIte, reduceCtorEq, Nat.reduceEqDiff, Nat.reduceAdd, Nat.reduceMul, Nat.reduceLeDiff, Nat.reduceLT, Nat.reduceSub, Nat.reduceBEq]⟩
        · rintro q j2 ⟨k, rfl, hk, h21, g4, h4, o4⟩
          simp only [stB, reduceIte, reduceCtorEq, Nat.reduceEqDiff, Nat.reduceAdd, Nat.reduceMul, Nat.reduceLeDiff, Nat.reduceLT, Nat.reduceSub, Nat.reduceBEq] at h21 g4 h4 o4
          rcases Nat.lt_or_ge k ((n + 1)) with hlt | hge
          · obtain ⟨x, hx⟩ : ∃ x, c[k]? = some x := ⟨_, List.getElem?_eq_getElem (by omega)⟩
            have hlt' : (k : Int) < (((n + 1) : Nat) : Int) := by omega
            have h0 : (0 : Int) ≤ (k : Int) := by omega
            have e1 := ckCells_get _ _ _ hx
            have hlen : (rowsS (((c.take (n + 1)).take k).map fun v => strB (Lib.itoa v))).length = k := by simp [rowsS, hc]; omega
            have e6 : rowsS (((c.take (n + 1)).take k).map fun v => strB (Lib.itoa v)) ++ [[Dt.sc (.string (strB (Lib.itoa x)))]] = rowsS (((c.take (n + 1)).take (k + 1)).map fun v => strB (Lib.itoa v)) := by
              rw [List.take_add_one (i := k), List.getElem?_take, if_pos hlt, hx]
              simp [rowsS]
            have hb : k + 1 ≤ 1000000 := by omega
            simp only [↓evP, evB, stB, reduceIte, reduceCtorEq, Nat.reduceEqDiff, Nat.reduceAdd, Nat.reduceMul, Nat.reduceLeDiff, Nat.reduceLT, Nat.reduceSub, Nat.reduceBEq, h21, g4, h4, o4, hlt', h0, e1, Nat.mul_one, Nat.zero_add]
            refine callOps_intro [pS (strB (Lib.itoa x))] ⟨x, ho x (List.mem_of_getElem? hx), rfl, rfl⟩ ?_
            simp only [↓evP, evB, stB, reduceIte, reduceCtorEq, Nat.reduceEqDiff, Nat.reduceAdd, Nat.reduceMul, Nat.reduceLeDiff, Nat.reduceLT, Nat.reduceSub, Nat.reduceBEq, h21, g4, h4, o4, hlen, hb]
            exact ⟨_, by omega, (by repeat' (first | assumption | exact within_over.mpr trivial | exact Within.refl _ _ _ | (refine within_ap ?_ rfl rfl) | (refine within_ap0 ?_ rfl))), k + 1, rfl, by omega, by simp only [stB, reduceIte, reduceCtorEq, Nat.reduceEqDiff, Nat.reduceAdd, Nat.reduceMul, Nat.reduceLeDiff, Nat.reduceLT, Nat.reduceSub, Nat.reduceBEq, h21]; rw [wrN (by omega)], by simp only [stB, reduceIte, reduceCtorEq, Nat.reduceEqDiff, Nat.reduceAdd, Nat.reduceMul, Nat.reduceLeDiff, Nat.reduceLT, Nat.reduceSub, Nat.reduceBEq, g4], by simp only [stB, reduceIte, reduceCtorEq, Nat.reduceEqDiff, Nat.reduceAdd, Nat.reduceMul, Nat.reduceLeDiff, Nat.reduceLT, Nat.reduceSub, Nat.reduceBEq, h4]; rw [e6], by simp only [stB, reduceIte, reduceCtorEq, Nat.reduceEqDiff, Nat.reduceAdd, Nat.reduceMul, Nat.reduceLeDiff, Nat.reduceLT, Nat.reduceSub, Nat.reduceBEq, o4]⟩
          · have hkl : k = (n + 1) := by omega
            rw [hkl] at h21 h4 o4
            have hlt' : ¬ (((n + 1) : Nat) : Int) < (((n + 1) : Nat) : Int) := by omega
            rw [List.take_take, Nat.min_self] at h4
            simp only [↓evP, evB, stB, reduceIte, reduceCtorEq, Nat.reduceEqDiff, Nat.reduceAdd, Nat.reduceMul, Nat.reduceLeDiff, Nat.reduceLT, Nat.reduceSub, Nat.reduceBEq, h21, g4, h4, o4, hlt']
            have hw : ((c.take ((n + 1))).map fun v => strB (Lib.itoa v)).map (·.data.toList) = wordsL c := by
              rw [List.map_map, wordsL, ← hq]
              exact List.map_congr_left fun _ _ => rfl
            refine callOps_intro [pS (strB (Lib.join (wordsL c) [32]))] ⟨(c.take ((n + 1))).map fun v => strB (Lib.itoa v), strB [32], by simp; omega, by rw [hw]; have := join_le hc ho; show (Lib.join (wordsL c) [32]).length ≤ _; omega, rfl, by rw [hw]⟩ ?_
            have b1 : (((⟨#[91]⟩ : ByteArray).size + (strB (Lib.join (wordsL c) [32])).size : Nat) : Int) ≤ 9223372036854775807 := by rw [show (⟨#[91]⟩ : ByteArray).size = 1 from rfl, strB_size (Lib.join (wordsL c) [32])]; have := join_le hc ho; omega
            have b2 : (((⟨#[91]⟩ ++ strB (Lib.join (wordsL c) [32]) : ByteArray).size + (⟨#[93]⟩ : ByteArray).size : Nat) : Int) ≤ 9223372036854775807 := by
              rw [show (⟨#[91]⟩ : ByteArray) = strB [91] from rfl, strB_append, strB_size]; have := join_le hc ho; show ((_ + (1 : Nat) : Nat) : Int) ≤ _; simp only [List.length_append, List.length_cons, List.length_nil]; omega
            have b3 : (⟨#[91]⟩ ++ strB (Lib.join (wordsL c) [32]) : ByteArray) ++ (⟨#[93]⟩ : ByteArray) = strB (ctext c) := by
              rw [show (⟨#[91]⟩ : ByteArray) = strB [91] from rfl, show (⟨#[93]⟩ : ByteArray) = strB [93] from rfl, strB_append, strB_append]
              simp [ctext]
            simp only [↓evP, evB, stB, reduceIte, reduceCtorEq, Nat.reduceEqDiff, Nat.reduceAdd, Nat.reduceMul, Nat.reduceLeDiff, Nat.reduceLT, Nat.reduceSub, Nat.reduceBEq, b1, b2, b3, pS, pr22]
end Go.Proofs.YthnjbnfnljjepaaDoor
end
section
set_option linter.unusedSimpArgs false
set_option linter.unusedVariables false
namespace Go.Proofs.YthnjbnfnljjepaaDoor
open Go Go.RowKit
set_option maxRecDepth 100000
set_option maxHeartbeats 4000000

theorem fieldsGoD_word : ∀ (f : Nat) (cur l : List UInt8) (w : List UInt8), w ∈ Lib.fieldsGoD f cur l → w.length ≤ cur.length + l.length
  | 0, cur, l, w, h => by
    unfold Lib.fieldsGoD at h
    split at h
    · cases h
    · simp at h; subst h; omega
  | f + 1, cur, l, w, h => by
    unfold Lib.fieldsGoD at h
    split at h
    · split at h
      · cases h
      · simp at h; subst h; omega
    · split at h
      · simp only [List.mem_append] at h
        rcases h with h | h
        · split at h
          · cases h
          · simp at h; subst h; omega
        · have := fieldsGoD_word f _ _ w h
          simp only [List.length_nil, List.length_drop] at this
          omega
      · have := fieldsGoD_word f _ _ w h
        simp only [List.length_append, List.length_take, List.length_drop] at this
        omega
theorem fieldsGoD_count : ∀ (f : Nat) (cur l : List UInt8), (Lib.fieldsGoD f cur l).length ≤ f + 1
  | 0, cur, l => by unfold Lib.fieldsGoD; split <;> simp
  | f + 1, cur, l => by
    unfold Lib.fieldsGoD
    split
    · split <;> simp
    · split
      · rw [List.length_append]
        have := fieldsGoD_count f [] (l.drop (Lib.decodeL l).2)
        split <;> simp <;> omega
      · have := fieldsGoD_count f (cur ++ l.take (Lib.decodeL l).2) (l.drop (Lib.decodeL l).2)
        omega
theorem trimS_le (l cs : List UInt8) : (Lib.trimS l cs).length ≤ l.length := by
  have h1 : ∀ (l cs : List UInt8), (Lib.trimLeftS l cs).length ≤ l.length := fun l cs => (List.dropWhile_sublist _).length_le
  have h2 : ∀ (l cs : List UInt8), (Lib.trimRightS l cs).length ≤ l.length := fun l cs => by
    unfold Lib.trimRightS
    rw [List.length_reverse]
    exact Nat.le_trans (List.dropWhile_sublist _).length_le (by simp)
  exact Nat.le_trans (h1 _ _) (h2 _ _)

def numC : List (List UInt8) → Option (List Int)
  | [] => some []
  | w :: ws => match Lib.atoiAll w with
    | .ok v => (numC ws).map (v :: ·)
    | _ => none
theorem numC_length : ∀ {ws : List (List UInt8)} {l : List Int}, numC ws = some l → l.length = ws.length
  | [], l, h => by cases h; rfl
  | w :: ws, l, h => by
    unfold numC at h
    split at h
    · simp only [Option.map_eq_some_iff] at h
      obtain ⟨l', h1, rfl⟩ := h
      simp [numC_length h1]
    · cases h
theorem numC_append : ∀ {ws : List (List UInt8)} {w : List UInt8}, numC (ws ++ [w]) = (numC ws).bind fun l => match Lib.atoiAll w with | .ok v => some (l ++ [v]) | _ => none
  | [], w => by
    simp only [List.nil_append, numC, Option.bind_some]
    cases Lib.atoiAll w <;> rfl
  | x :: ws, w => by
    have ih := numC_append (ws := ws) (w := w)
    simp only [List.cons_append, numC]
    cases Lib.atoiAll x with
    | ok v =>
      simp only [ih]
      cases numC ws with
      | none => rfl
      | some l =>
        simp only [Option.bind_some, Option.map_some]
        cases Lib.atoiAll w <;> rfl
    | _ => rfl
theorem numC_none {ws : List (List UInt8)} {k : Nat} {w : List UInt8} (hw : ws[k]? = some w) (h : ∀ v, Lib.atoiAll w ≠ .ok v) : numC ws = none := by
  induction ws generalizing k with
  | nil => simp at hw
  | cons x ws ih =>
    unfold numC
    cases k with
    | zero =>
      simp at hw; subst hw
      cases hq : Lib.atoiAll x with
      | ok v => exact absurd hq (h v)
      | _ => rfl
    | succ k =>
      simp at hw
      cases hq : Lib.atoiAll x with
      | ok v => simp only [ih hw]; rfl
      | _ => rfl
theorem numC_ok : ∀ {ws : List (List UInt8)} {l : List Int}, numC ws = some l → OK64 l
  | [], l, h => by cases h; exact fun x hx => by cases hx
  | w :: ws, l, h => by
    unfold numC at h
    split at h
    · rename_i v hv
      simp only [Option.map_eq_some_iff] at h
      obtain ⟨l', h1, rfl⟩ := h
      intro x hx
      rcases List.mem_cons.1 hx with rfl | hx
      · exact Lib.atoiAll_bounds hv
      · exact numC_ok h1 x hx
    · cases h
def padC (l : List Int) : Ck := l ++ List.replicate (8 - l.length) 0
theorem padC_length {l : List Int} (h : l.length ≤ 8) : (padC l).length = 8 := by unfold padC; rw [List.length_append, List.length_replicate]; omega
theorem padC_set {l : List Int} {v : Int} (h : l.length < 8) : (padC l).set l.length v = padC (l ++ [v]) := by
  unfold padC
  rw [List.set_append_right _ _ (Nat.le_refl _), Nat.sub_self, show 8 - l.length = (8 - (l ++ [v]).length) + 1 by simp; omega, List.replicate_succ, List.set_cons_zero]
  simp
theorem padC_ok {l : List Int} (h : OK64 l) : OK64 (padC l) := fun x hx => by
  unfold padC at hx
  rw [List.mem_append] at hx
  rcases hx with hx | hx
  · exact h x hx
  · rw [(List.mem_replicate.1 hx).2]; omega
def zC : Ck := [0, 0, 0, 0, 0, 0, 0, 0]
def wordsOf (s : List UInt8) : List (List UInt8) := Lib.fieldsD (Lib.trimS s [91, 93])
/-- the clock that is read -/
def readC (s : List UInt8) : Option Ck :=
  if 8 < (wordsOf s).length then none else match numC (wordsOf s) with
  | none => none
  | some l => if ctext (padC l) = s then some (padC l) else none
def readPa (r : Option Ck) : List Pa := match r with
  | some c => [ckPa c, pI 0]
  | none => [ckPa zC, pI 8]
theorem strings_eq (a b : ByteArray) : (a.toList == b.toList) = decide (a.data.toList = b.data.toList) := by
  rw [ByteArray.toList_eq, ByteArray.toList_eq, Bool.eq_iff_iff]; simp
def R_read (ps rs : List Pa) : Prop := ∃ s : ByteArray, ps = [pS s] ∧ s.size ≤ 100000 ∧ rs = readPa (readC s.data.toList)
def env_cread : Env := e1 29 R_trim (e1 28 R_fields (e1 30 R_atoi (e1 22 R_text e0)))
theorem env_cread_ok : EnvOK Tryd.prog env_cread := EnvOK.e1 s_trim (EnvOK.e1 s_fields (EnvOK.e1 s_atoi (EnvOK.e1 s_cText EnvOK.e0)))
theorem s_cRead : Spec Tryd.prog 23 R_read := by
  refine sp23 env_cread_ok ?_
  rintro ps rs ⟨s, rfl, hs, rfl⟩
  refine ⟨by simp, ?_⟩
  have hts := trimS_le s.data.toList [91, 93]
  have hss : s.data.toList.length = s.size := by simp
  have hcnt : (wordsOf s.data.toList).length ≤ 100002 := by
    have := fieldsGoD_count ((Lib.trimS s.data.toList [91, 93]).length + 1) [] (Lib.trimS s.data.toList [91, 93])
    unfold wordsOf Lib.fieldsD; omega
  have hword : ∀ w, w ∈ wordsOf s.data.toList → w.length ≤ 100000 := fun w hw => by
    have := fieldsGoD_word _ _ _ w hw
    simp only [List.length_nil] at this
    omega
  unfold pc23
  refine pwp_start ?_
  simp only [↓evP, evB, stB, reduceIte, reduceCtorEq, Nat.reduceEqDiff, Nat.reduceAdd, Nat.reduceMul, Nat.reduceLeDiff, Nat.reduceLT, Nat.reduceSub, Nat.reduceBEq]
  refine callOps_intro [pS (strB (Lib.trimS s.data.toList [91, 93]))] ⟨s, by omega, rfl, rfl⟩ ?_
  simp only [↓evP, evB, stB, reduceIte, reduceCtorEq, Nat.reduceEqDiff, Nat.reduceAdd, Nat.reduceMul, Nat.reduceLeDiff, Nat.reduceLT, Nat.reduceSub, Nat.reduceBEq]
  refine callOps_intro [pL ((wordsOf s.data.toList).map strB)] ⟨strB (Lib.trimS s.data.toList [91, 93]), by rw [strB_size]; omega, rfl, rfl⟩ ?_
  have hl : (rowsS ((wordsOf s.data.toList).map strB)).length = (wordsOf s.data.toList).length := by simp [rowsS]
  by_cases h8 : 8 < (wordsOf s.data.toList).length
  · have h8' : ((wordsOf s.data.toList).length : Int) > 8 := by omega
    have hr : readC s.data.toList = none := by unfold readC; rw [if_pos h8]
    simp only [↓evP, evB, stB, reduceIte, reduceCtorEq, Nat.reduceEqDiff, Nat.reduceAdd, Nat.reduceMul, Nat.reduceLeDiff, Nat.reduceLT, Nat.reduceSub, Nat.reduceBEq, hl, h8', decide_true, hr, readPa, pr23]
    rfl
  · have h8' : ¬ ((wordsOf s.data.toList).length : Int) > 8 := by omega
    simp only [↓evP, evB, stB, reduceIte, reduceCtorEq, Nat.reduceEqDiff, Nat.reduceAdd, Nat.reduceMul, Nat.reduceLeDiff, Nat.reduceLT, Nat.reduceSub, Nat.reduceBEq, hl, h8', decide_false]
    refine pwp_loopW ms23_0 os23_0 (fun m st => ∃ (k : Nat) (l : List Int), m = (wordsOf s.data.toList).length - k ∧ k ≤ (wordsOf s.data.toList).length ∧ st.sl 19 = aI k ∧ numC ((wordsOf s.data.toList).take k) = some l ∧ st.gen 2 = 1 ∧ st.gen 4 = 1 ∧ st.ob 2 = .cells (ckCells zC) ∧ st.ob 4 = .cells (ckCells (padC l))) (wordsOf s.data.toList).length ?_ ?_
    · exact ⟨0, [], rfl, Nat.zero_le _, by simp only [stB, reduceIte, reduceCtorEq, Nat.reduceEqDiff, Nat.reduceAdd, Nat.reduceMul, Nat.reduceLeDiff, Nat.reduceLT, Nat.reduceSub, Nat.reduceBEq]; rfl, rfl, by simp only [stB, reduceIte, reduceCtorEq, Nat.reduceEqDiff, Nat.reduceAdd, Nat.reduceMul, Nat.reduceLeDiff, Nat.reduceLT, Nat.reduceSub, Nat.reduceBEq], by simp only [stB, reduceIte, reduceCtorEq, Nat.reduceEqDiff, Nat.reduceAdd, Nat.reduceMul, Nat.reduceLeDiff, Nat.reduceLT, Nat.reduceSub, Nat.reduceBEq], by simp only [stB, reduceIte, reduceCtorEq, Nat.reduceEqDiff, Nat.reduceAdd, Nat.reduceMul, Nat.reduceLeDiff, Nat.reduceLT, Nat.reduceSub, Nat.reduceBEq]; rfl, by simp only [stB, reduceIte, reduceCtorEq, Nat.reduceEqDiff, Nat.reduceAdd, Nat.reduceMul, Nat.reduceLeDiff, Nat.reduceLT, Nat.reduceSub, Nat.reduceBEq]; rfl⟩
    · rintro q j ⟨k, l, rfl, hk, h19, hnum, g2, g4, o2, o4⟩
      simp only [stB, reduceIte, reduceCtorEq, Nat.reduceEqDiff, Nat.reduceAdd, Nat.reduceMul, Nat.reduceLeDiff, Nat.reduceLT, Nat.reduceSub, Nat.reduceBEq] at h19 g2 g4 o2 o4
      have hlk := numC_length hnum
      rw [List.length_take] at hlk
      rcases Nat.lt_or_ge k (wordsOf s.data.toList).length with hlt | hge
      · obtain ⟨w, hw⟩ : ∃ w, (wordsOf s.data.toList)[k]? = some w := ⟨_, List.getElem?_eq_getElem hlt⟩
        have hlt' : (k : Int) < ((wordsOf s.data.toList).length : Int) := by omega
        have h0 : (0 : Int) ≤ (k : Int) := by omega
        have hrow : (rowsS ((wordsOf s.data.toList).map strB))[k]? = some [Dt.sc (.string (strB w))] := by simp [rowsS, hw]
        have hwl := hword w (List.mem_of_getElem? hw)
        simp only [↓evP, evB, stB, reduceIte, reduceCtorEq, Nat.reduceEqDiff, Nat.reduceAdd, Nat.reduceMul, Nat.reduceLeDiff, Nat.reduceLT, Nat.reduceSub, Nat.reduceBEq, h19, hl, hlt', h0, hrow, decide_true, Int.toNat_natCast]
        cases ha : Lib.atoiAll w with
        | ok v =>
          refine callOps_intro [pI v, .one (.sc .nilIface)] ⟨strB w, by rw [strB_size]; omega, rfl, by rw [show (strB w).data.toList = w from rfl, ha]⟩ ?_
          have hk8 : (k : Int) < ((8 : Nat) : Int) := by omega
          have hll : l.length = k := by omega
          have hnum2 : numC ((wordsOf s.data.toList).take (k + 1)) = some (l ++ [v]) := by
            rw [List.take_add_one, hw]
            simp only [Option.toList_some]
            rw [numC_append, hnum]
            simp [ha]
          have e3 : k + 1 ≤ (ckCells (padC l)).length := by rw [ckCells_length, padC_length (by omega)]; omega
          have e4 := (ckCells_set (padC l) k v (by rw [padC_length (by omega)]; omega)).trans (congrArg ckCells ((congrArg (fun i => (padC l).set i v) hll.symm).trans (padC_set (by omega))))
          simp only [↓evP, evB, stB, reduceIte, reduceCtorEq, Nat.reduceEqDiff, Nat.reduceAdd, Nat.reduceMul, Nat.reduceLeDiff, Nat.reduceLT, Nat.reduceSub, Nat.reduceBEq, h19, hl, hlt', h0, hrow, hk8, g4, o4, e3, Nat.mul_one, Nat.zero_add, Int.toNat_natCast]
          exact ⟨_, by omega, (by repeat' (first | assumption | exact within_over.mpr trivial | exact Within.refl _ _ _ | (refine within_ap ?_ rfl rfl) | (refine within_ap0 ?_ rfl))), k + 1, l ++ [v], rfl, by omega, by simp only [stB, reduceIte, reduceCtorEq, Nat.reduceEqDiff, Nat.reduceAdd, Nat.reduceMul, Nat.reduceLeDiff, Nat.reduceLT, Nat.reduceSub, Nat.reduceBEq, h19]; rw [wrN (by omega)], hnum2, by simp only [stB, reduceIte, reduceCtorEq, Nat.reduceEqDiff, Nat.reduceAdd, Nat.reduceMul, Nat.reduceLeDiff, Nat.reduceLT, Nat.reduceSub, Nat.reduceBEq, g2], by simp only [stB, reduceIte, reduceCtorEq, Nat.reduceEqDiff, Nat.reduceAdd, Nat.reduceMul, Nat.reduceLeDiff, Nat.reduceLT, Nat.reduceSub, Nat.reduceBEq, g4], by simp only [stB, reduceIte, reduceCtorEq, Nat.reduceEqDiff, Nat.reduceAdd, Nat.reduceMul, Nat.reduceLeDiff, Nat.reduceLT, Nat.reduceSub, Nat.reduceBEq, o2], by simp only [stB, reduceIte, reduceCtorEq, Nat.reduceEqDiff, Nat.reduceAdd, Nat.reduceMul, Nat.reduceLeDiff, Nat.reduceLT, Nat.reduceSub, Nat.reduceBEq, o4, wrF_cells]; rw [e4]⟩
        | _ =>
          have hr : readC s.data.toList = none := by unfold readC; rw [if_neg h8, numC_none hw (fun v hv => by rw [ha] at hv; cases hv)]
          refine callOps_intro [pI _, .one .nn] ⟨strB w, by rw [strB_size]; omega, rfl, by rw [show (strB w).data.toList = w from rfl, ha]⟩ ?_
          have e5 : (ckCells zC).length = 8 := rfl
          simp only [↓evP, evB, stB, reduceIte, reduceCtorEq, Nat.reduceEqDiff, Nat.reduceAdd, Nat.reduceMul, Nat.reduceLeDiff, Nat.reduceLT, Nat.reduceSub, Nat.reduceBEq, h19, g2, o2, hr, readPa, pr23, e5]
          rfl
      · have hkl : k = (wordsOf s.data.toList).length := by omega
        rw [hkl] at h19
        rw [hkl, List.take_length] at hnum
        have hlt' : ¬ ((wordsOf s.data.toList).length : Int) < ((wordsOf s.data.toList).length : Int) := by omega
        have hl8 : l.length ≤ 8 := by omega
        obtain ⟨a1, a2⟩ := ld8 (padC_length hl8)
        have a5 : (ckCells (padC l)).length = 8 := by rw [ckCells_length, padC_length hl8]
        simp only [↓evP, evB, stB, reduceIte, reduceCtorEq, Nat.reduceEqDiff, Nat.reduceAdd, Nat.reduceMul, Nat.reduceLeDiff, Nat.reduceLT, Nat.reduceSub, Nat.reduceBEq, h19, hl, hlt', g2, g4, o2, o4, a1, a2, decide_false, ckCells_dt]
        refine callOps_intro [pS (strB (ctext (padC l)))] (R_text.mk (padC_length hl8) (padC_ok (numC_ok hnum))) ?_
        have hse := strings_eq (strB (ctext (padC l))) s
        rw [show (strB (ctext (padC l))).data.toList = ctext (padC l) from rfl] at hse
        by_cases hq : ctext (padC l) = s.data.toList
        · have hr : readC s.data.toList = some (padC l) := by unfold readC; rw [if_neg h8, hnum]; simp only; rw [if_pos hq]
          rw [decide_eq_true hq] at hse
          have e6 : (ckCells zC).length = 8 := rfl
          have e7 : wrAt (ckCells zC) 0 (ckCells (padC l)) = ckCells (padC l) := wrAt_full (by rw [a5]; rfl)
          simp only [↓evP, evB, stB, reduceIte, reduceCtorEq, Nat.reduceEqDiff, Nat.reduceAdd, Nat.reduceMul, Nat.reduceLeDiff, Nat.reduceLT, Nat.reduceSub, Nat.reduceBEq, hse, g2, g4, o2, o4, a1, a2, a5, e6, e7, wr_new8 (padC_length hl8), ckCells_dt, hr, readPa, ckPa, pI, pr23]
        · have hr : readC s.data.toList = none := by unfold readC; rw [if_neg h8, hnum]; simp only; rw [if_neg hq]
          rw [decide_eq_false hq] at hse
          have e6 : (ckCells zC).length = 8 := rfl
          simp only [↓evP, evB, stB, reduceIte, reduceCtorEq, Nat.reduceEqDiff, Nat.reduceAdd, Nat.reduceMul, Nat.reduceLeDiff, Nat.reduceLT, Nat.reduceSub, Nat.reduceBEq, hse, g2, g4, o2, o4, a1, a2, a5, e6, hr, readPa, pr23]
          rfl
end Go.Proofs.YthnjbnfnljjepaaDoor
end
section
set_option linter.unusedSimpArgs false
set_option linter.unusedVariables false
namespace Go.Proofs.YthnjbnfnljjepaaDoor
open Go
set_option maxRecDepth 100000
set_option maxHeartbeats 1000000

theorem dg_toNat {u : Nat} (h : u < 10) : (UInt8.ofNat (48 + u)).toNat = 48 + u := by
  rw [UInt8.toNat_ofNat']; omega
theorem decDigits_small {u : Nat} (h : u < 10) : Lib.decDigits u = [UInt8.ofNat (48 + u)] := by rw [Lib.decDigits, dif_pos h]
theorem decDigits_big {u : Nat} (h : ¬ u < 10) : Lib.decDigits u = Lib.decDigits (u / 10) ++ [UInt8.ofNat (48 + u % 10)] := by rw [Lib.decDigits, dif_neg h]
theorem decDigits_ne (u : Nat) : Lib.decDigits u ≠ [] := by
  by_cases h : u < 10
  · rw [decDigits_small h]; simp
  · rw [decDigits_big h]; simp
theorem decDigits_digit (u : Nat) : ∀ b ∈ Lib.decDigits u, 48 ≤ b.toNat ∧ b.toNat ≤ 57 := by
  induction u using Nat.strongRecOn with
  | _ u ih =>
    by_cases h : u < 10
    · rw [decDigits_small h]
      intro b hb
      simp only [List.mem_singleton] at hb
      rw [hb, dg_toNat h]; omega
    · rw [decDigits_big h]
      intro b hb
      rcases List.mem_append.1 hb with hb | hb
      · exact ih (u / 10) (by omega) b hb
      · simp only [List.mem_singleton] at hb
        rw [hb, dg_toNat (by omega)]; omega
/-- the first digit is 0 for 0 alone -/
theorem decDigits_head (u : Nat) : ∃ b r, Lib.decDigits u = b :: r ∧ (b.toNat = 48 → u = 0 ∧ r = []) := by
  induction u using Nat.strongRecOn with
  | _ u ih =>
    by_cases h : u < 10
    · exact ⟨_, [], decDigits_small h, fun hb => ⟨by rw [dg_toNat h] at hb; omega, rfl⟩⟩
    · obtain ⟨b, r, hd, hz⟩ := ih (u / 10) (by omega)
      exact ⟨b, r ++ [UInt8.ofNat (48 + u % 10)], by rw [decDigits_big h, hd]; rfl, fun hb => by have := (hz hb).1; omega⟩
theorem parse_dec (u : Nat) : ∀ r, u < 18446744073709551616 → Lib.parseUint10 0 (Lib.decDigits u ++ r) = Lib.parseUint10 u r := by
  induction u using Nat.strongRecOn with
  | _ u ih =>
    intro r hu
    by_cases h : u < 10
    · rw [decDigits_small h]
      simp only [List.cons_append, List.nil_append, Lib.parseUint10, dg_toNat h]
      rw [if_pos (by omega), if_neg (by omega), if_neg (by omega)]
      congr 1
      omega
    · rw [decDigits_big h, List.append_assoc, ih (u / 10) (by omega) _ (by omega)]
      simp only [List.cons_append, List.nil_append, Lib.parseUint10, dg_toNat (show u % 10 < 10 by omega)]
      rw [if_pos (by omega), if_neg (by omega), if_neg (by omega)]
      congr 1
      omega
theorem parseMag_dec {u : Nat} (hu : u < 18446744073709551616) : Lib.parseMag (Lib.decDigits u) = .ok u := by
  unfold Lib.parseMag
  rw [if_neg (decDigits_ne u)]
  have := parse_dec u [] hu
  rw [List.append_nil] at this
  rw [this]; rfl
theorem atoi_itoa {v : Int} (h0 : -9223372036854775808 ≤ v) (h1 : v ≤ 9223372036854775807) : Lib.atoiAll (Lib.itoa v) = .ok v := by
  by_cases hneg : v < 0
  · obtain ⟨u, rfl⟩ : ∃ u : Nat, v = -(u : Int) := ⟨v.natAbs, by omega⟩
    rw [Lib.itoa_neg u (by omega), Lib.atoiAll_minus, parseMag_dec (by omega)]
    show (if 9223372036854775808 < u then Lib.NumEnd.range else Lib.NumEnd.ok (-(u : Int))) = _
    rw [if_neg (by omega)]
  · obtain ⟨u, rfl⟩ : ∃ u : Nat, v = u := ⟨v.toNat, by omega⟩
    obtain ⟨b, r, hd, _⟩ := decDigits_head u
    have hb := decDigits_digit u b (by rw [hd]; simp)
    rw [Lib.itoa_nonneg, hd, Lib.atoiAll_plain b r (by omega) (by omega), ← hd, parseMag_dec (by omega)]
    show (if 9223372036854775808 ≤ u then Lib.NumEnd.range else Lib.NumEnd.ok (u : Int)) = _
    rw [if_neg (by omega)]
/-- the bytes of a numeral: digits and a sign -/
theorem itoa_byte (v : Int) : ∀ b ∈ Lib.itoa v, 45 = b.toNat ∨ (48 ≤ b.toNat ∧ b.toNat ≤ 57) := by
  unfold Lib.itoa
  split
  · intro b hb
    rcases List.mem_cons.1 hb with rfl | hb
    · exact .inl rfl
    · exact .inr (decDigits_digit _ b hb)
  · intro b hb
    exact .inr (decDigits_digit _ b hb)
theorem itoa_ne (v : Int) : Lib.itoa v ≠ [] := by
  unfold Lib.itoa
  split
  · simp
  · exact decDigits_ne _
end Go.Proofs.YthnjbnfnljjepaaDoor
end
section
set_option linter.unusedSimpArgs false
set_option linter.unusedVariables false
namespace Go.Proofs.YthnjbnfnljjepaaDoor
open Go Go.RowKit
set_option maxRecDepth 100000
set_option maxHeartbeats 4000000

theorem noSpace {n : Nat} (h : 33 ≤ n ∧ n < 128) : Lib.isSpaceR n = false := by
  unfold Lib.isSpaceR
  simp only [Bool.or_eq_false_iff, Bool.and_eq_false_iff, decide_eq_false_iff_not, beq_eq_false_iff_ne, ne_eq]
  omega
theorem fieldsGo_end (f : Nat) (cur : List UInt8) : Lib.fieldsGoD f cur [] = if cur = [] then [] else [cur] := by
  cases f with
  | zero => rfl
  | succ f => unfold Lib.fieldsGoD; rw [if_pos rfl]
theorem fieldsGo_word : ∀ (w : List UInt8) (f : Nat) (cur r : List UInt8), (∀ b ∈ w, 33 ≤ b.toNat ∧ b.toNat < 128) → Lib.fieldsGoD (f + w.length) cur (w ++ r) = Lib.fieldsGoD f (cur ++ w) r
  | [], f, cur, r, _ => by simp
  | b :: w, f, cur, r, h => by
    have hb := h b (by simp)
    show Lib.fieldsGoD ((f + w.length) + 1) cur (b :: (w ++ r)) = _
    rw [Lib.fieldsGoD, if_neg (by simp), Lib.decodeL_ascii b _ hb.2]
    simp only [noSpace hb, Bool.false_eq_true, if_false, List.take_succ_cons, List.take_zero, List.drop_succ_cons, List.drop_zero]
    rw [fieldsGo_word w f _ _ (fun b hb => h b (by simp [hb]))]
    simp
theorem fieldsGo_space (f : Nat) (cur r : List UInt8) : Lib.fieldsGoD (f + 1) cur (32 :: r) = (if cur = [] then [] else [cur]) ++ Lib.fieldsGoD f [] r := by
  have h32 : Lib.isSpaceR ((32 : UInt8).toNat) = true := rfl
  rw [Lib.fieldsGoD, if_neg (by simp), Lib.decodeL_ascii 32 _ (by decide)]
  simp only [h32, if_true, List.drop_succ_cons, List.drop_zero]
theorem join_two (x y : List UInt8) (r : List (List UInt8)) (sep : List UInt8) : Lib.join (x :: y :: r) sep = x ++ (sep ++ Lib.join (y :: r) sep) := by
  rw [Lib.join_cons, Lib.join_cons]
  simp [Lib.joinTail]
def WordOK (w : List UInt8) : Prop := w ≠ [] ∧ ∀ b ∈ w, 33 ≤ b.toNat ∧ b.toNat < 128 ∧ b.toNat ≠ 91 ∧ b.toNat ≠ 93
theorem fieldsGo_join : ∀ (ws : List (List UInt8)) (g : Nat), (∀ w ∈ ws, WordOK w) → Lib.fieldsGoD (g + (Lib.join ws [32]).length) [] (Lib.join ws [32]) = ws
  | [], g, _ => by rw [Lib.join_nil, fieldsGo_end, if_pos rfl]
  | [x], g, h => by
    have hx := h x (by simp)
    have := fieldsGo_word x g [] [] (fun b hb => ⟨(hx.2 b hb).1, (hx.2 b hb).2.1⟩)
    rw [List.append_nil] at this
    rw [Lib.join_one, this, fieldsGo_end, if_neg (by simpa using hx.1)]
    rfl
  | x :: y :: r, g, h => by
    have hx := h x (by simp)
    have hl : g + (Lib.join (x :: y :: r) [32]).length = ((g + (Lib.join (y :: r) [32]).length) + 1) + x.length := by
      rw [join_two]; simp only [List.length_append, List.length_cons, List.length_nil]; omega
    rw [hl, join_two, fieldsGo_word x _ [] _ (fun b hb => ⟨(hx.2 b hb).1, (hx.2 b hb).2.1⟩)]
    simp only [List.nil_append, List.cons_append]
    rw [fieldsGo_space, if_neg hx.1, fieldsGo_join (y :: r) g (fun w hw => h w (by simp [List.mem_cons.1 hw]))]
    rfl
theorem fields_join {ws : List (List UInt8)} (h : ∀ w ∈ ws, WordOK w) : Lib.fieldsD (Lib.join ws [32]) = ws := by
  unfold Lib.fieldsD
  rw [Nat.add_comm]
  exact fieldsGo_join ws 1 h
theorem join_byte : ∀ {ws : List (List UInt8)}, (∀ w ∈ ws, WordOK w) → ∀ b ∈ Lib.join ws [32], b.toNat ≠ 91 ∧ b.toNat ≠ 93
  | [], _, b, hb => by rw [Lib.join_nil] at hb; cases hb
  | [x], h, b, hb => by
    rw [Lib.join_one] at hb
    exact (((h x (by simp)).2 b hb).2.2)
  | x :: y :: r, h, b, hb => by
    rw [join_two] at hb
    rcases List.mem_append.1 hb with hb | hb
    · exact (((h x (by simp)).2 b hb).2.2)
    · rcases List.mem_append.1 hb with hb | hb
      · simp only [List.mem_singleton] at hb; subst hb; decide
      · exact join_byte (ws := y :: r) (fun w hw => h w (by simp [List.mem_cons.1 hw])) b hb
theorem no9193 {b : UInt8} (h : b.toNat ≠ 91 ∧ b.toNat ≠ 93) : ([91, 93] : List UInt8).contains b = false := by
  have h1 : b ≠ 91 := fun e => h.1 (by rw [e]; rfl)
  have h2 : b ≠ 93 := fun e => h.2 (by rw [e]; rfl)
  simp [h1, h2]
theorem dropW (x y : UInt8) (j : List UInt8) (hx : ([91, 93] : List UInt8).contains x = true) (hj : ∀ b ∈ j, ([91, 93] : List UInt8).contains b = false) (hne : j ≠ []) : (x :: (j ++ [y])).dropWhile (([91, 93] : List UInt8).contains ·) = j ++ [y] := by
  cases j with
  | nil => exact absurd rfl hne
  | cons b t =>
    have hb := hj b (by simp)
    rw [List.dropWhile_cons, if_pos hx]
    show List.dropWhile _ (b :: (t ++ [y])) = _
    rw [List.dropWhile_cons, hb]
    rfl
theorem trim_text {j : List UInt8} (h : ∀ b ∈ j, b.toNat ≠ 91 ∧ b.toNat ≠ 93) : Lib.trimS (91 :: (j ++ [93])) [91, 93] = j := by
  by_cases hne : j = []
  · subst hne; decide
  · have hj : ∀ b ∈ j, ([91, 93] : List UInt8).contains b = false := fun b hb => no9193 (h b hb)
    unfold Lib.trimS Lib.trimRightS Lib.trimLeftS
    have e1 : (91 :: (j ++ [93]) : List UInt8).reverse = 93 :: (j.reverse ++ [91]) := by simp
    rw [e1, dropW 93 91 j.reverse rfl (fun b hb => hj b (List.mem_reverse.1 hb)) (by simpa using hne)]
    rw [List.reverse_append, List.reverse_reverse]
    show List.dropWhile _ (91 :: j) = j
    cases j with
    | nil => exact absurd rfl hne
    | cons b t =>
      rw [List.dropWhile_cons, if_pos (by decide), List.dropWhile_cons, hj b (by simp)]
      rfl
theorem itoa_word (v : Int) : WordOK (Lib.itoa v) := ⟨itoa_ne v, fun b hb => by have := itoa_byte v b hb; omega⟩
theorem wordsL_ok (c : Ck) : ∀ w ∈ wordsL c, WordOK w := by
  intro w hw
  unfold wordsL at hw
  obtain ⟨v, _, rfl⟩ := List.mem_map.1 hw
  exact itoa_word v
theorem wordsOf_text (c : Ck) : wordsOf (ctext c) = wordsL c := by
  unfold wordsOf ctext
  rw [trim_text (join_byte (wordsL_ok c)), fields_join (wordsL_ok c)]
theorem numC_itoa : ∀ {l : List Int}, OK64 l → numC (l.map Lib.itoa) = some l
  | [], _ => rfl
  | v :: l, h => by
    have hv := h v (by simp)
    simp only [List.map_cons, numC]
    rw [atoi_itoa hv.1 hv.2, numC_itoa (fun x hx => h x (by simp [hx]))]
    rfl
theorem trimN_zero (c : Ck) : ∀ (n i : Nat), trimN c n ≤ i → i < n → c.getD i 0 = 0
  | 0, i, _, h => by omega
  | n + 1, i, h, hi => by
    unfold trimN at h
    split at h
    · rename_i hz
      rcases Nat.lt_or_ge i n with hlt | hge
      · exact trimN_zero c n i h hlt
      · have : i = n := by omega
        rw [this]; exact hz
    · omega
theorem padC_take {c : Ck} (hc : c.length = 8) : padC (c.take (tn c)) = c := by
  have hle := trimN_le c 8
  refine List.ext_getElem? fun i => ?_
  unfold padC
  have hl : (c.take (tn c)).length = tn c := by rw [List.length_take]; unfold tn; omega
  rcases Nat.lt_or_ge i (tn c) with hlt | hge
  · rw [List.getElem?_append_left (by omega), List.getElem?_take, if_pos hlt]
  · rw [List.getElem?_append_right (by omega), hl, List.getElem?_replicate]
    rcases Nat.lt_or_ge i 8 with h8 | h8
    · have hz := trimN_zero c 8 i hge h8
      rw [if_pos (by omega), List.getElem?_eq_getElem (by omega)]
      rw [List.getD_eq_getElem?_getD, List.getElem?_eq_getElem (by omega)] at hz
      rw [← hz]; rfl
    · rw [if_neg (by omega), List.getElem?_eq_none (by omega)]
theorem readC_text {c : Ck} (hc : c.length = 8) (ho : OK64 c) : readC (ctext c) = some c := by
  have hle := trimN_le c 8
  have hlen : (wordsL c).length ≤ 8 := by unfold wordsL; rw [List.length_map, List.length_take]; omega
  unfold readC
  rw [wordsOf_text, if_neg (by omega)]
  unfold wordsL
  rw [numC_itoa (ho.take _)]
  simp only [padC_take hc, if_true]
/-- what is read has this text -/
theorem readC_some {s : List UInt8} {c : Ck} (h : readC s = some c) : ctext c = s := by
  unfold readC at h
  split at h
  · cases h
  · split at h
    · cases h
    · split at h
      · rename_i hq; cases h; exact hq
      · cases h
end Go.Proofs.YthnjbnfnljjepaaDoor
end
section
set_option linter.unusedSimpArgs false
set_option linter.unusedVariables false
namespace Go.Proofs.YthnjbnfnljjepaaDoor
open Go Go.RowKit
set_option maxRecDepth 100000
set_option maxHeartbeats 4000000

theorem decDigits_len : ∀ (k u : Nat), u < 10 ^ (k + 1) → (Lib.decDigits u).length ≤ k + 1
  | 0, u, h => by rw [decDigits_small (by simpa using h)]; simp
  | k + 1, u, h => by
    by_cases hs : u < 10
    · rw [decDigits_small hs]; simp
    · rw [decDigits_big hs, List.length_append]
      have := decDigits_len k (u / 10) (by rw [Nat.div_lt_iff_lt_mul (by omega), ← Nat.pow_succ]; exact h)
      simp only [List.length_cons, List.length_nil]; omega
def numU : List UInt8 → Nat → Option Nat
  | [], u => some u
  | b :: r, u => if 48 ≤ b.toNat ∧ b.toNat ≤ 57 then numU r (10 * u + (b.toNat - 48)) else none
theorem numU_dec (u : Nat) : ∀ r, numU (Lib.decDigits u ++ r) 0 = numU r u := by
  induction u using Nat.strongRecOn with
  | _ u ih =>
    intro r
    by_cases h : u < 10
    · rw [decDigits_small h]
      simp only [List.cons_append, List.nil_append, numU, dg_toNat h]
      rw [if_pos (by omega)]
      congr 1; omega
    · rw [decDigits_big h, List.append_assoc, ih (u / 10) (by omega)]
      simp only [List.cons_append, List.nil_append, numU, dg_toNat (show u % 10 < 10 by omega)]
      rw [if_pos (by omega)]
      congr 1; omega
def magL (w : List UInt8) : List UInt8 := if w.head? = some 45 then w.drop 1 else w
/-- the form that no number has -/
def badL (w : List UInt8) : Bool := decide ((magL w).length = 0) || (decide (19 < (magL w).length) || (decide ((magL w).head? = some 48) && (decide (1 < (magL w).length) || decide (w.head? = some 45))))
def numF (w : List UInt8) : Int × Bool :=
  if badL w = true then (0, false) else match numU (magL w) 0 with
  | none => (0, false)
  | some u => if w.head? = some 45 then (IntKind.i64.wrap (0 - IntKind.i64.wrap u), decide (u ≤ 9223372036854775808)) else (IntKind.i64.wrap u, decide (u ≤ 9223372036854775807))
theorem wrap_ok (n : Int) : -9223372036854775808 ≤ IntKind.i64.wrap n ∧ IntKind.i64.wrap n ≤ 9223372036854775807 := by
  simp only [IntKind.wrap, IntKind.signed, IntKind.bits]
  simp
  split <;> omega
theorem numF_ok (w : List UInt8) : -9223372036854775808 ≤ (numF w).1 ∧ (numF w).1 ≤ 9223372036854775807 := by
  unfold numF
  split
  · simp
  · split
    · simp
    · split
      · exact wrap_ok _
      · exact wrap_ok _
theorem numF_itoa {v : Int} (h0 : -9223372036854775808 ≤ v) (h1 : v ≤ 9223372036854775807) : numF (Lib.itoa v) = (v, true) := by
  by_cases hneg : v < 0
  · obtain ⟨u, rfl⟩ : ∃ u : Nat, v = -(u : Int) := ⟨v.natAbs, by omega⟩
    have hu : u ≤ 9223372036854775808 := by omega
    have hu0 : u ≠ 0 := by omega
    obtain ⟨b, r, hd, hz⟩ := decDigits_head u
    have hlen := decDigits_len 18 u (by omega)
    have hm : magL (Lib.itoa (-(u : Int))) = Lib.decDigits u := by rw [Lib.itoa_neg u (by omega)]; rfl
    have hh : (Lib.itoa (-(u : Int))).head? = some 45 := by rw [Lib.itoa_neg u (by omega)]; rfl
    have hb : badL (Lib.itoa (-(u : Int))) = false := by
      unfold badL
      rw [hm, hd]
      rw [hd] at hlen
      have hb48 : b ≠ 48 := fun e => by have := (hz (by rw [e]; rfl)).1; omega
      simp only [List.length_cons, List.head?_cons, Option.some.injEq, hb48, Bool.or_eq_false_iff, decide_eq_false_iff_not, Bool.and_eq_false_iff] at *
      refine ⟨by omega, by omega, .inl (by simp)⟩
    have hn := numU_dec u []
    rw [List.append_nil] at hn
    unfold numF
    rw [hb, if_neg (by simp), hm, hn, hh]
    simp only [numU, if_true]
    rw [decide_eq_true hu]
    congr 1
    by_cases hq : u = 9223372036854775808
    · subst hq; rfl
    · have e1 : IntKind.i64.wrap (u : Int) = u := wr64 (by omega) (by omega)
      rw [e1, wr64 (by omega) (by omega)]; omega
  · obtain ⟨u, rfl⟩ : ∃ u : Nat, v = u := ⟨v.toNat, by omega⟩
    have hu : u ≤ 9223372036854775807 := by omega
    obtain ⟨b, r, hd, hz⟩ := decDigits_head u
    have hlen := decDigits_len 18 u (by omega)
    have hb' := decDigits_digit u b (by rw [hd]; simp)
    have hb45 : b ≠ 45 := fun e => by rw [e] at hb'; revert hb'; decide
    have hh : (Lib.itoa (u : Int)).head? ≠ some 45 := by rw [Lib.itoa_nonneg, hd]; simpa using hb45
    have hm : magL (Lib.itoa (u : Int)) = Lib.decDigits u := by unfold magL; rw [if_neg hh, Lib.itoa_nonneg]
    have hb : badL (Lib.itoa (u : Int)) = false := by
      unfold badL
      rw [hm, hd, decide_eq_false hh]
      rw [hd] at hlen
      simp only [List.length_cons, List.head?_cons, Option.some.injEq, Bool.or_eq_false_iff, decide_eq_false_iff_not, Bool.and_eq_false_iff] at *
      refine ⟨by omega, by omega, ?_⟩
      by_cases e : b = 48
      · refine .inr ⟨?_, trivial⟩
        rw [(hz (by rw [e]; rfl)).2]; simp
      · exact .inl e
    have hn := numU_dec u []
    rw [List.append_nil] at hn
    unfold numF
    rw [hb, if_neg (by simp), hm, hn]
    simp only [numU]
    rw [if_neg hh, decide_eq_true hu, wr64 (by omega) (by omega)]
/-- words parted by one blank each -/
def refW : Nat → List UInt8 → Option (List Int)
  | 0, t => if t = [] then some [] else none
  | n + 1, t => if t = [] then some [] else
    if (numF (t.takeWhile (· != 32))).2 = true ∧ (t.drop (t.takeWhile (· != 32)).length).length ≠ 1 then
      (if t.drop (t.takeWhile (· != 32)).length = [] then some [(numF (t.takeWhile (· != 32))).1] else (refW n (t.drop ((t.takeWhile (· != 32)).length + 1))).map ((numF (t.takeWhile (· != 32))).1 :: ·))
    else none
def refC (s : List UInt8) : Option Ck :=
  if s.length < 2 ∨ s.head? ≠ some 91 ∨ s.getLast? ≠ some 93 then none else match refW 8 ((s.drop 1).dropLast) with
  | none => none
  | some l => if ctext (padC l) = s then some (padC l) else none
theorem refW_ok : ∀ {n : Nat} {t : List UInt8} {l : List Int}, refW n t = some l → l.length ≤ n ∧ OK64 l
  | 0, t, l, h => by
    unfold refW at h
    split at h
    · cases h; exact ⟨Nat.le_refl _, fun x hx => by cases hx⟩
    · cases h
  | n + 1, t, l, h => by
    unfold refW at h
    split at h
    · cases h; exact ⟨by simp, fun x hx => by cases hx⟩
    · split at h
      · split at h
        · cases h
          exact ⟨by simp, fun x hx => by rw [List.mem_singleton.1 hx]; exact numF_ok _⟩
        · rw [Option.map_eq_some_iff] at h
          obtain ⟨l', h1, rfl⟩ := h
          have ih := refW_ok h1
          exact ⟨by simpa using ih.1, fun x hx => by
            rcases List.mem_cons.1 hx with rfl | hx
            · exact numF_ok _
            · exact ih.2 x hx⟩
      · cases h
theorem takeW_word {w : List UInt8} (h : ∀ b ∈ w, b ≠ 32) (r : List UInt8) : (w ++ 32 :: r).takeWhile (· != 32) = w := by
  rw [List.takeWhile_append_of_pos (fun b hb => by simpa using h b hb)]
  simp
theorem takeW_all {w : List UInt8} (h : ∀ b ∈ w, b ≠ 32) : w.takeWhile (· != 32) = w := by
  have := List.takeWhile_append_of_pos (p := (· != (32 : UInt8))) (l₁ := w) (l₂ := []) (fun b hb => by simpa using h b hb)
  simpa using this
theorem word_no32 {w : List UInt8} (h : WordOK w) : ∀ b ∈ w, b ≠ 32 := fun b hb e => by
  have := (h.2 b hb).1
  rw [e] at this
  revert this; decide
theorem join_ne {x : List UInt8} (h : x ≠ []) (r : List (List UInt8)) : Lib.join (x :: r) [32] ≠ [] := by
  cases r with
  | nil => rw [Lib.join_one]; exact h
  | cons y r => rw [join_two]; simp
theorem refW_join : ∀ {l : List Int} {n : Nat}, OK64 l → l.length ≤ n → refW n (Lib.join (l.map Lib.itoa) [32]) = some l
  | [], n, _, _ => by
    rw [List.map_nil, Lib.join_nil]
    cases n <;> simp [refW]
  | [v], n, ho, hn => by
    obtain ⟨m, rfl⟩ : ∃ m, n = m + 1 := ⟨n - 1, by simp at hn; omega⟩
    have hv := ho v (by simp)
    rw [List.map_cons, List.map_nil, Lib.join_one]
    unfold refW
    rw [if_neg (itoa_ne v), takeW_all (word_no32 (itoa_word v)), numF_itoa hv.1 hv.2]
    simp
  | v :: y :: r, n, ho, hn => by
    obtain ⟨m, rfl⟩ : ∃ m, n = m + 1 := ⟨n - 1, by simp at hn; omega⟩
    have hv := ho v (by simp)
    have ih := refW_join (l := y :: r) (n := m) (fun x hx => ho x (List.mem_cons_of_mem _ hx)) (by simpa using hn)
    have hj : Lib.join ((v :: y :: r).map Lib.itoa) [32] = Lib.itoa v ++ 32 :: Lib.join ((y :: r).map Lib.itoa) [32] := by
      simp only [List.map_cons]
      rw [join_two]; rfl
    have hne : Lib.join ((y :: r).map Lib.itoa) [32] ≠ [] := join_ne (itoa_ne y) _
    have hlen : (Lib.join ((y :: r).map Lib.itoa) [32]).length ≠ 0 := fun e => hne (List.eq_nil_of_length_eq_zero e)
    rw [hj]
    unfold refW
    rw [if_neg (by simp), takeW_word (word_no32 (itoa_word v)), numF_itoa hv.1 hv.2]
    have hd : (Lib.itoa v ++ 32 :: Lib.join ((y :: r).map Lib.itoa) [32]).drop (Lib.itoa v).length = 32 :: Lib.join ((y :: r).map Lib.itoa) [32] := by simp
    have hd1 : (Lib.itoa v ++ 32 :: Lib.join ((y :: r).map Lib.itoa) [32]).drop ((Lib.itoa v).length + 1) = Lib.join ((y :: r).map Lib.itoa) [32] := by
      rw [← List.drop_drop, hd]; rfl
    rw [hd, hd1, if_pos ⟨rfl, by simp only [List.length_cons]; omega⟩, if_neg (by simp), ih]
    rfl
theorem refC_text {c : Ck} (hc : c.length = 8) (ho : OK64 c) : refC (ctext c) = some c := by
  have hle := trimN_le c 8
  have hmid : ((ctext c).drop 1).dropLast = Lib.join (wordsL c) [32] := by
    unfold ctext
    rw [List.drop_succ_cons, List.drop_zero, List.dropLast_concat]
  have hlast : (ctext c).getLast? = some 93 := by
    unfold ctext
    rw [← List.cons_append, List.getLast?_concat]
  unfold refC
  rw [if_neg (by
    rintro (h | h | h)
    · simp [ctext] at h; omega
    · exact h rfl
    · exact h hlast), hmid]
  unfold wordsL
  rw [refW_join (ho.take _) (by rw [List.length_take]; omega)]
  simp only [padC_take hc, if_true]
theorem readC_ok {s : List UInt8} {c : Ck} (h : readC s = some c) : c.length = 8 ∧ OK64 c := by
  unfold readC at h
  split at h
  · cases h
  · rename_i hlen
    split at h
    · cases h
    · rename_i l hl
      split at h
      · cases h
        have := numC_length hl
        exact ⟨padC_length (by omega), padC_ok (numC_ok hl)⟩
      · cases h
/-- the reference accepts what the program accepts -/
theorem refC_eq (s : List UInt8) : refC s = readC s := by
  cases hr : readC s with
  | some c =>
    have h := readC_ok hr
    rw [← readC_some hr, refC_text h.1 h.2]
  | none =>
    cases hf : refC s with
    | none => rfl
    | some c =>
      exfalso
      unfold refC at hf
      split at hf
      · cases hf
      · split at hf
        · cases hf
        · rename_i l hl
          split at hf
          · rename_i hq
            cases hf
            have h := refW_ok hl
            rw [← hq, readC_text (padC_length h.1) (padC_ok h.2)] at hr
            cases hr
          · cases hf
end Go.Proofs.YthnjbnfnljjepaaDoor
end
section
set_option linter.unusedSimpArgs false
set_option linter.unusedVariables false
namespace Go.Proofs.YthnjbnfnljjepaaDoor
open Go Go.RowKit
set_option maxRecDepth 100000
set_option maxHeartbeats 4000000

abbrev aU (n : Int) : Av := .b (.one (.d (.sc (.int .u64 n))))
abbrev aS (b : ByteArray) : Av := .b (.one (.d (.sc (.string b))))
theorem wru {x : Int} (h : 0 ≤ x) (k : x ≤ 18446744073709551615) : IntKind.u64.wrap x = x := IntWalk.u64_in x ⟨h, k⟩
theorem wru8 {x : Int} (h : 0 ≤ x) (k : x ≤ 255) : IntKind.u8.wrap x = x := IntWalk.u8_in x ⟨h, k⟩
theorem bytes1 {n : Nat} : bytesStr [(n : Int)] = strB [UInt8.ofNat n] := rfl
theorem tm10 (u : Nat) : (u : Int).tmod 10 = ((u % 10 : Nat) : Int) := by rw [Int.tmod_eq_emod_of_nonneg (by omega)]; omega
theorem td10 (u : Nat) : (u : Int).tdiv 10 = ((u / 10 : Nat) : Int) := by rw [Int.tdiv_eq_ediv_of_nonneg (by omega)]; omega
theorem ten_ne : ((10 : Int) = 0) = False := by simp
theorem cat_le {a b : List UInt8} (h : a.length + b.length ≤ 1000000) : ((((strB a).size + (strB b).size : Nat)) : Int) ≤ 9223372036854775807 := by rw [strB_size, strB_size]; omega
theorem wneg {n : Int} (h : n < 0) (h0 : -9223372036854775808 ≤ n) : IntKind.u64.wrap (0 - IntKind.u64.wrap n) = ((n.natAbs : Nat) : Int) := by
  rw [IntKind.wrap_u64, IntKind.wrap_u64]; omega
theorem s_rDecimal : Spec Tryd.prog 31 R_itoa := by
  refine sp31 EnvOK.e0 ?_
  rintro ps rs ⟨n, ⟨h0, h1⟩, rfl, rfl⟩
  refine ⟨by simp, ?_⟩
  unfold pc31
  refine pwp_start ?_
  by_cases hneg : n < 0
  · have hU : (Lib.decDigits n.natAbs).length ≤ 19 := decDigits_len 18 n.natAbs (by omega)
    have hw := wneg hneg h0
    have hit : Lib.itoa n = 45 :: Lib.decDigits n.natAbs := by unfold Lib.itoa; rw [if_pos hneg]
    simp only [↓evP, evB, stB, reduceIte, reduceCtorEq, Nat.reduceEqDiff, Nat.reduceAdd, Nat.reduceMul, Nat.reduceLeDiff, Nat.reduceLT, Nat.reduceSub, Nat.reduceBEq, hneg, hw, decide_true]
    refine pwp_loopW ms31_0 os31_0 (fun m st => ∃ (u : Nat) (S : List UInt8), u = m ∧ u ≤ n.natAbs ∧ Lib.decDigits n.natAbs = Lib.decDigits u ++ S ∧ st.sl 3 = aU u ∧ st.sl 4 = aS (strB S)) n.natAbs ?_ ?_
    · exact ⟨n.natAbs, [], rfl, Nat.le_refl _, by simp, by simp only [stB, reduceIte, reduceCtorEq, Nat.reduceEqDiff, Nat.reduceAdd, Nat.reduceMul, Nat.reduceLeDiff, Nat.reduceLT, Nat.reduceSub, Nat.reduceBEq], by simp only [stB, reduceIte, reduceCtorEq, Nat.reduceEqDiff, Nat.reduceAdd, Nat.reduceMul, Nat.reduceLeDiff, Nat.reduceLT, Nat.reduceSub, Nat.reduceBEq]⟩
    · rintro m j ⟨u, S, rfl, hum, hd, h3, h4⟩
      simp only [stB, reduceIte, reduceCtorEq, Nat.reduceEqDiff, Nat.reduceAdd, Nat.reduceMul, Nat.reduceLeDiff, Nat.reduceLT, Nat.reduceSub, Nat.reduceBEq] at h3 h4
      have hS : S.length ≤ 19 := by rw [hd, List.length_append] at hU; omega
      have hm : IntKind.u64.wrap (48 + ((u % 10 : Nat) : Int)) = ((48 + u % 10 : Nat) : Int) := by rw [wru (by omega) (by omega)]; omega
      have hm8 : IntKind.u8.wrap ((48 + u % 10 : Nat) : Int) = ((48 + u % 10 : Nat) : Int) := wru8 (by omega) (by omega)
      have hq : IntKind.u64.wrap ((u / 10 : Nat) : Int) = ((u / 10 : Nat) : Int) := wru (by omega) (by omega)
      by_cases hb : (u : Int) ≥ 10
      · have hc := cat_le (a := [UInt8.ofNat (48 + u % 10)]) (b := S) (by simp; omega)
        simp only [↓evP, evB, stB, reduceIte, reduceCtorEq, Nat.reduceEqDiff, Nat.reduceAdd, Nat.reduceMul, Nat.reduceLeDiff, Nat.reduceLT, Nat.reduceSub, Nat.reduceBEq, h3, h4, hb, decide_true, ten_ne, tm10, td10, hm, hm8, hq, bytes1, hc]
        refine ⟨_, ?_, (by repeat' (first | assumption | exact within_over.mpr trivial | exact Within.refl _ _ _ | (refine within_ap ?_ rfl rfl) | (refine within_ap0 ?_ rfl))), u / 10, UInt8.ofNat (48 + u % 10) :: S, rfl, by omega, ?_, by simp only [stB, reduceIte, reduceCtorEq, Nat.reduceEqDiff, Nat.reduceAdd, Nat.reduceMul, Nat.reduceLeDiff, Nat.reduceLT, Nat.reduceSub, Nat.reduceBEq], by simp only [stB, reduceIte, reduceCtorEq, Nat.reduceEqDiff, Nat.reduceAdd, Nat.reduceMul, Nat.reduceLeDiff, Nat.reduceLT, Nat.reduceSub, Nat.reduceBEq]; rw [strB_append]; rfl⟩
        · omega
        · rw [hd, decDigits_big (by omega)]; simp
      · have hb' : u < 10 := by omega
        have hm2 : IntKind.u64.wrap (48 + (u : Int)) = ((48 + u : Nat) : Int) := by rw [wru (by omega) (by omega)]; omega
        have hm9 : IntKind.u8.wrap ((48 + u : Nat) : Int) = ((48 + u : Nat) : Int) := wru8 (by omega) (by omega)
        have hc := cat_le (a := [UInt8.ofNat (48 + u)]) (b := S) (by simp; omega)
        have hS2 : strB [UInt8.ofNat (48 + u)] ++ strB S = strB (Lib.decDigits n.natAbs) := by rw [strB_append, hd, decDigits_small hb']
        have hc2 := cat_le (a := [45]) (b := Lib.decDigits n.natAbs) (by simp; omega)
        have hS3 : (⟨#[45]⟩ : ByteArray) ++ strB (Lib.decDigits n.natAbs) = strB (Lib.itoa n) := by rw [show (⟨#[45]⟩ : ByteArray) = strB [45] from rfl, strB_append]; rw [hit]; rfl
        simp only [↓evP, evB, stB, reduceIte, reduceCtorEq, Nat.reduceEqDiff, Nat.reduceAdd, Nat.reduceMul, Nat.reduceLeDiff, Nat.reduceLT, Nat.reduceSub, Nat.reduceBEq, h3, h4, hb, hneg, decide_true, decide_false, hm2, hm9, bytes1, hc, hS2]
        have hc3 : ((((⟨#[45]⟩ : ByteArray).size + (strB (Lib.decDigits n.natAbs)).size : Nat)) : Int) ≤ 9223372036854775807 := hc2
        simp only [↓evP, evB, stB, reduceIte, reduceCtorEq, Nat.reduceEqDiff, Nat.reduceAdd, Nat.reduceMul, Nat.reduceLeDiff, Nat.reduceLT, Nat.reduceSub, Nat.reduceBEq, hc3, hS3, pr31]
  · have hU : (Lib.decDigits n.natAbs).length ≤ 19 := decDigits_len 18 n.natAbs (by omega)
    have hw : IntKind.u64.wrap n = ((n.natAbs : Nat) : Int) := by rw [wru (by omega) (by omega)]; omega
    have hit : Lib.itoa n = Lib.decDigits n.natAbs := by obtain ⟨m, rfl⟩ := Int.eq_ofNat_of_zero_le (show 0 ≤ n by omega); rw [Lib.itoa_nonneg]; rfl
    simp only [↓evP, evB, stB, reduceIte, reduceCtorEq, Nat.reduceEqDiff, Nat.reduceAdd, Nat.reduceMul, Nat.reduceLeDiff, Nat.reduceLT, Nat.reduceSub, Nat.reduceBEq, hneg, hw, decide_false]
    refine pwp_loopW ms31_0 os31_0 (fun m st => ∃ (u : Nat) (S : List UInt8), u = m ∧ u ≤ n.natAbs ∧ Lib.decDigits n.natAbs = Lib.decDigits u ++ S ∧ st.sl 3 = aU u ∧ st.sl 4 = aS (strB S)) n.natAbs ?_ ?_
    · exact ⟨n.natAbs, [], rfl, Nat.le_refl _, by simp, by simp only [stB, reduceIte, reduceCtorEq, Nat.reduceEqDiff, Nat.reduceAdd, Nat.reduceMul, Nat.reduceLeDiff, Nat.reduceLT, Nat.reduceSub, Nat.reduceBEq], by simp only [stB, reduceIte, reduceCtorEq, Nat.reduceEqDiff, Nat.reduceAdd, Nat.reduceMul, Nat.reduceLeDiff, Nat.reduceLT, Nat.reduceSub, Nat.reduceBEq]⟩
    · rintro m j ⟨u, S, rfl, hum, hd, h3, h4⟩
      simp only [stB, reduceIte, reduceCtorEq, Nat.reduceEqDiff, Nat.reduceAdd, Nat.reduceMul, Nat.reduceLeDiff, Nat.reduceLT, Nat.reduceSub, Nat.reduceBEq] at h3 h4
      have hS : S.length ≤ 19 := by rw [hd, List.length_append] at hU; omega
      have hm : IntKind.u64.wrap (48 + ((u % 10 : Nat) : Int)) = ((48 + u % 10 : Nat) : Int) := by rw [wru (by omega) (by omega)]; omega
      have hm8 : IntKind.u8.wrap ((48 + u % 10 : Nat) : Int) = ((48 + u % 10 : Nat) : Int) := wru8 (by omega) (by omega)
      have hq : IntKind.u64.wrap ((u / 10 : Nat) : Int) = ((u / 10 : Nat) : Int) := wru (by omega) (by omega)
      by_cases hb : (u : Int) ≥ 10
      · have hc := cat_le (a := [UInt8.ofNat (48 + u % 10)]) (b := S) (by simp; omega)
        simp only [↓evP, evB, stB, reduceIte, reduceCtorEq, Nat.reduceEqDiff, Nat.reduceAdd, Nat.reduceMul, Nat.reduceLeDiff, Nat.reduceLT, Nat.reduceSub, Nat.reduceBEq, h3, h4, hb, decide_true, ten_ne, tm10, td10, hm, hm8, hq, bytes1, hc]
        refine ⟨_, ?_, (by repeat' (first | assumption | exact within_over.mpr trivial | exact Within.refl _ _ _ | (refine within_ap ?_ rfl rfl) | (refine within_ap0 ?_ rfl))), u / 10, UInt8.ofNat (48 + u % 10) :: S, rfl, by omega, ?_, by simp only [stB, reduceIte, reduceCtorEq, Nat.reduceEqDiff, Nat.reduceAdd, Nat.reduceMul, Nat.reduceLeDiff, Nat.reduceLT, Nat.reduceSub, Nat.reduceBEq], by simp only [stB, reduceIte, reduceCtorEq, Nat.reduceEqDiff, Nat.reduceAdd, Nat.reduceMul, Nat.reduceLeDiff, Nat.reduceLT, Nat.reduceSub, Nat.reduceBEq]; rw [strB_append]; rfl⟩
        · omega
        · rw [hd, decDigits_big (by omega)]; simp
      · have hb' : u < 10 := by omega
        have hm2 : IntKind.u64.wrap (48 + (u : Int)) = ((48 + u : Nat) : Int) := by rw [wru (by omega) (by omega)]; omega
        have hm9 : IntKind.u8.wrap ((48 + u : Nat) : Int) = ((48 + u : Nat) : Int) := wru8 (by omega) (by omega)
        have hc := cat_le (a := [UInt8.ofNat (48 + u)]) (b := S) (by simp; omega)
        have hS2 : strB [UInt8.ofNat (48 + u)] ++ strB S = strB (Lib.decDigits n.natAbs) := by rw [strB_append, hd, decDigits_small hb']
        have hc2 := cat_le (a := [45]) (b := Lib.decDigits n.natAbs) (by simp; omega)
        simp only [↓evP, evB, stB, reduceIte, reduceCtorEq, Nat.reduceEqDiff, Nat.reduceAdd, Nat.reduceMul, Nat.reduceLeDiff, Nat.reduceLT, Nat.reduceSub, Nat.reduceBEq, h3, h4, hb, hneg, decide_true, decide_false, hm2, hm9, bytes1, hc, hS2]
        simp only [↓evP, evB, stB, reduceIte, reduceCtorEq, Nat.reduceEqDiff, Nat.reduceAdd, Nat.reduceMul, Nat.reduceLeDiff, Nat.reduceLT, Nat.reduceSub, Nat.reduceBEq, hit, pr31]

theorem join_snoc : ∀ (ws : List (List UInt8)) (w : List UInt8) (c : UInt8), ws ≠ [] → Lib.join (ws ++ [w]) [c] = Lib.join ws [c] ++ c :: w
  | [], _, _, h => absurd rfl h
  | [x], w, c, _ => by
    show Lib.join [x, w] [c] = _
    rw [join_two, Lib.join_one, Lib.join_one]; rfl
  | x :: y :: r, w, c, _ => by
    show Lib.join (x :: y :: (r ++ [w])) [c] = _
    rw [join_two, show y :: (r ++ [w]) = (y :: r) ++ [w] from rfl, join_snoc (y :: r) w c (by simp), join_two]
    simp
theorem jl_le {c : Ck} (hc : c.length = 8) (ho : OK64 c) (k : Nat) : (Lib.join ((c.take k).map Lib.itoa) [32]).length ≤ 300 := by
  have h1 := lens_words (ho.take k)
  have h3 : (c.take k).length ≤ 8 := by rw [List.length_take]; omega
  cases hq : (c.take k).map Lib.itoa with
  | nil => simp [Lib.join_nil]
  | cons x r =>
    rw [Lib.join_length, ← hq]
    have h4 : r.length + 1 = (c.take k).length := by rw [← List.length_cons (a := x), ← hq, List.length_map]
    simp only [List.length_cons, List.length_nil]
    omega
def env_rtext : Env := e1 31 R_itoa e0
theorem env_rtext_ok : EnvOK Tryd.prog env_rtext := EnvOK.e1 s_rDecimal EnvOK.e0
theorem s_rText : Spec Tryd.prog 24 R_text := by
  refine sp24 env_rtext_ok ?_
  rintro ps rs ⟨c, rfl, ⟨hc, ho⟩, rfl⟩
  refine ⟨by simp, ?_⟩
  have a5 : (ckCells c).length = 8 := by rw [ckCells_length, hc]
  unfold pc24
  refine pwp_start ?_
  simp only [↓evP, evB, stB, reduceIte, reduceCtorEq, Nat.reduceEqDiff, Nat.reduceAdd, Nat.reduceMul, Nat.reduceLeDiff, Nat.reduceLT, Nat.reduceSub, Nat.reduceBEq, ckPa, ckRow_cells]
  refine pwp_loopW ms24_0 os24_0 (fun m st => m ≤ 8 ∧ st.sl 3 = aI m ∧ trimN c m = tn c) 8 ?_ ?_
  · exact ⟨Nat.le_refl _, by simp only [stB, reduceIte, reduceCtorEq, Nat.reduceEqDiff, Nat.reduceAdd, Nat.reduceMul, Nat.reduceLeDiff, Nat.reduceLT, Nat.reduceSub, Nat.reduceBEq]; rfl, rfl⟩
  · rintro m j ⟨hm, h3, ht⟩
    simp only [stB, reduceIte, reduceCtorEq, Nat.reduceEqDiff, Nat.reduceAdd, Nat.reduceMul, Nat.reduceLeDiff, Nat.reduceLT, Nat.reduceSub, Nat.reduceBEq] at h3
    by_cases h00 : (m : Int) > 0
    case neg =>
      have hq : m = tn c := by rw [← ht]; have : m = 0 := by omega
                               rw [this]; rfl
      simp only [↓evP, evB, stB, reduceIte, reduceCtorEq, Nat.reduceEqDiff, Nat.reduceAdd, Nat.reduceMul, Nat.reduceLeDiff, Nat.reduceLT, Nat.reduceSub, Nat.reduceBEq, h3, h00, decide_false]
      refine pwp_loopW ms24_1 os24_1 (fun q st => ∃ k : Nat, q = m - k ∧ k ≤ m ∧ st.sl 5 = aI k ∧ st.sl 4 = aS (strB (91 :: Lib.join ((c.take k).map Lib.itoa) [32]))) m ?_ ?_
      · exact ⟨0, rfl, Nat.zero_le _, by simp only [stB, reduceIte, reduceCtorEq, Nat.reduceEqDiff, Nat.reduceAdd, Nat.reduceMul, Nat.reduceLeDiff, Nat.reduceLT, Nat.reduceSub, Nat.reduceBEq]; rfl, by simp only [stB, reduceIte, reduceCtorEq, Nat.reduceEqDiff, Nat.reduceAdd, Nat.reduceMul, Nat.reduceLeDiff, Nat.reduceLT, Nat.reduceSub, Nat.reduceBEq, List.take_zero, List.map_nil, Lib.join_nil]⟩
      · rintro q j2 ⟨k, rfl, hk, h5, h4⟩
        simp only [stB, reduceIte, reduceCtorEq, Nat.reduceEqDiff, Nat.reduceAdd, Nat.reduceMul, Nat.reduceLeDiff, Nat.reduceLT, Nat.reduceSub, Nat.reduceBEq] at h5 h4
        have hj := jl_le hc ho k
        rcases Nat.lt_or_ge k m with hlt | hge
        · obtain ⟨x, hx⟩ : ∃ x, c[k]? = some x := ⟨_, List.getElem?_eq_getElem (by omega)⟩
          have hlt' : (k : Int) < ((m : Nat) : Int) := by omega
          have h0 : (0 : Int) ≤ (k : Int) := by omega
          have h8 : (k : Int) < ((8 : Nat) : Int) := by omega
          have e1 := ckCells_get _ _ _ hx
          have hxo := ho x (List.mem_of_getElem? hx)
          have hxl := Lib.itoa_length_le x hxo.1 hxo.2
          have htk : (c.take (k + 1)).map Lib.itoa = (c.take k).map Lib.itoa ++ [Lib.itoa x] := by rw [List.take_add_one, hx, List.map_append]; rfl
          by_cases hk0 : (k : Int) > 0
          · have hne : (c.take k).map Lib.itoa ≠ [] := by
              intro h
              have := congrArg List.length h
              simp only [List.length_map, List.length_take, List.length_nil] at this
              omega
            have hc1 : ((((strB (91 :: Lib.join ((c.take k).map Lib.itoa) [32])).size + (⟨#[32]⟩ : ByteArray).size : Nat)) : Int) ≤ 9223372036854775807 := cat_le (b := [32]) (by simp only [List.length_append, List.length_cons, List.length_nil]; omega)
            have hs1 : strB (91 :: Lib.join ((c.take k).map Lib.itoa) [32]) ++ (⟨#[32]⟩ : ByteArray) = strB (91 :: (Lib.join ((c.take k).map Lib.itoa) [32] ++ [32])) := by rw [show (⟨#[32]⟩ : ByteArray) = strB [32] from rfl, strB_append]; rfl
            simp only [↓evP, evB, stB, reduceIte, reduceCtorEq, Nat.reduceEqDiff, Nat.reduceAdd, Nat.reduceMul, Nat.reduceLeDiff, Nat.reduceLT, Nat.reduceSub, Nat.reduceBEq, h3, h5, h4, hlt', hk0, h0, h8, e1, hc1, hs1, decide_true, Nat.mul_one, Nat.zero_add, Int.toNat_natCast]
            refine callOps_intro [pS (strB (Lib.itoa x))] (by exact ⟨x, hxo, rfl, rfl⟩) ?_
            have hc2 := cat_le (a := 91 :: (Lib.join ((c.take k).map Lib.itoa) [32] ++ [32])) (b := Lib.itoa x) (by simp only [List.length_append, List.length_cons, List.length_nil]; omega)
            have hs2 : strB (91 :: (Lib.join ((c.take k).map Lib.itoa) [32] ++ [32])) ++ strB (Lib.itoa x) = strB (91 :: Lib.join ((c.take (k + 1)).map Lib.itoa) [32]) := by rw [strB_append, htk, join_snoc _ _ _ hne]; simp
            simp only [↓evP, evB, stB, reduceIte, reduceCtorEq, Nat.reduceEqDiff, Nat.reduceAdd, Nat.reduceMul, Nat.reduceLeDiff, Nat.reduceLT, Nat.reduceSub, Nat.reduceBEq, h3, h5, h4, hc2, hs2]
            exact ⟨_, by omega, (by repeat' (first | assumption | exact within_over.mpr trivial | exact Within.refl _ _ _ | (refine within_ap ?_ rfl rfl) | (refine within_ap0 ?_ rfl))), k + 1, rfl, by omega, by simp only [stB, reduceIte, reduceCtorEq, Nat.reduceEqDiff, Nat.reduceAdd, Nat.reduceMul, Nat.reduceLeDiff, Nat.reduceLT, Nat.reduceSub, Nat.reduceBEq, h5]; rw [wrN (by omega)], by simp only [stB, reduceIte, reduceCtorEq, Nat.reduceEqDiff, Nat.reduceAdd, Nat.reduceMul, Nat.reduceLeDiff, Nat.reduceLT, Nat.reduceSub, Nat.reduceBEq]⟩
          · have hkz : k = 0 := by omega
            subst hkz
            simp only [List.take_zero, List.map_nil, Lib.join_nil] at h4
            simp only [↓evP, evB, stB, reduceIte, reduceCtorEq, Nat.reduceEqDiff, Nat.reduceAdd, Nat.reduceMul, Nat.reduceLeDiff, Nat.reduceLT, Nat.reduceSub, Nat.reduceBEq, h3, h5, h4, hlt', hk0, h0, h8, e1, decide_true, decide_false, Nat.mul_one, Nat.zero_add, Int.toNat_natCast, Int.toNat_zero]
            refine callOps_intro [pS (strB (Lib.itoa x))] (by exact ⟨x, hxo, rfl, rfl⟩) ?_
            have hc2 := cat_le (a := [91]) (b := Lib.itoa x) (by simp; omega)
            have hs2 : strB [91] ++ strB (Lib.itoa x) = strB (91 :: Lib.join ((c.take (0 + 1)).map Lib.itoa) [32]) := by rw [strB_append, htk]; simp [Lib.join_one]
            simp only [↓evP, evB, stB, reduceIte, reduceCtorEq, Nat.reduceEqDiff, Nat.reduceAdd, Nat.reduceMul, Nat.reduceLeDiff, Nat.reduceLT, Nat.reduceSub, Nat.reduceBEq, h3, h5, h4, hc2, hs2]
            exact ⟨_, by omega, (by repeat' (first | assumption | exact within_over.mpr trivial | exact Within.refl _ _ _ | (refine within_ap ?_ rfl rfl) | (refine within_ap0 ?_ rfl))), 0 + 1, rfl, by omega, by simp only [stB, reduceIte, reduceCtorEq, Nat.reduceEqDiff, Nat.reduceAdd, Nat.reduceMul, Nat.reduceLeDiff, Nat.reduceLT, Nat.reduceSub, Nat.reduceBEq, h5]; rw [wrN (by omega)], by simp only [stB, reduceIte, reduceCtorEq, Nat.reduceEqDiff, Nat.reduceAdd, Nat.reduceMul, Nat.reduceLeDiff, Nat.reduceLT, Nat.reduceSub, Nat.reduceBEq]⟩
        · have hkl : k = m := by omega
          rw [hkl] at h5 h4
          have hlt' : ¬ ((m : Nat) : Int) < ((m : Nat) : Int) := by omega
          have hj := jl_le hc ho m
          have hc3 : ((((strB (91 :: Lib.join ((c.take m).map Lib.itoa) [32])).size + (⟨#[93]⟩ : ByteArray).size : Nat)) : Int) ≤ 9223372036854775807 := cat_le (b := [93]) (by simp only [List.length_append, List.length_cons, List.length_nil]; omega)
          have hs3 : strB (91 :: Lib.join ((c.take m).map Lib.itoa) [32]) ++ (⟨#[93]⟩ : ByteArray) = strB (ctext c) := by rw [show (⟨#[93]⟩ : ByteArray) = strB [93] from rfl, strB_append, hq]; rfl
          simp only [↓evP, evB, stB, reduceIte, reduceCtorEq, Nat.reduceEqDiff, Nat.reduceAdd, Nat.reduceMul, Nat.reduceLeDiff, Nat.reduceLT, Nat.reduceSub, Nat.reduceBEq, h3, h5, h4, hlt', hc3, hs3, decide_false, pS, pr24]
    cases m with
    | zero => exact absurd h00 (by omega)
    | succ n =>
      have h00 : ((n + 1 : Nat) : Int) > 0 := by omega
      have hw1 : IntKind.i64.wrap (((n + 1 : Nat) : Int) - 1) = (n : Int) := by rw [wr64 (by omega) (by omega)]; omega
      have h0' : (0 : Int) ≤ (n : Int) := by omega
      have hl8 : (n : Int) < ((8 : Nat) : Int) := by omega
      obtain ⟨x, hx⟩ : ∃ x, c[n]? = some x := ⟨_, List.getElem?_eq_getElem (by omega)⟩
      have e1 := ckCells_get _ _ _ hx
      have hgd : c.getD n 0 = x := by rw [List.getD_eq_getElem?_getD, hx]; rfl
      unfold trimN at ht
      rw [hgd] at ht
      by_cases hz : x = 0
      · subst hz
        rw [if_pos rfl] at ht
        have e2 : ((0 : Int) == 0) = true := rfl
        simp only [↓evP, evB, stB, reduceIte, reduceCtorEq, Nat.reduceEqDiff, Nat.reduceAdd, Nat.reduceMul, Nat.reduceLeDiff, Nat.reduceLT, Nat.reduceSub, Nat.reduceBEq, h3, h00, hw1, h0', hl8, e1, e2, decide_true, Nat.mul_one, Nat.zero_add, Int.toNat_natCast]
        exact ⟨n, by omega, (by repeat' (first | assumption | exact within_over.mpr trivial | exact Within.refl _ _ _ | (refine within_ap ?_ rfl rfl) | (refine within_ap0 ?_ rfl))), by omega, by simp only [stB, reduceIte, reduceCtorEq, Nat.reduceEqDiff, Nat.reduceAdd, Nat.reduceMul, Nat.reduceLeDiff, Nat.reduceLT, Nat.reduceSub, Nat.reduceBEq, h3, hw1], ht⟩
      · rw [if_neg hz] at ht
        have e2 : (x == 0) = false := beq_eq_false_iff_ne.2 hz
        have hq : n + 1 = tn c := ht
        simp only [↓evP, evB, stB, reduceIte, reduceCtorEq, Nat.reduceEqDiff, Nat.reduceAdd, Nat.reduceMul, Nat.reduceLeDiff, Nat.reduceLT, Nat.reduceSub, Nat.reduceBEq, h3, h00, hw1, h0', hl8, e1, e2, decide_true, decide_false, Nat.mul_one, Nat.zero_add, Int.toNat_natCast]
        refine pwp_loopW ms24_1 os24_1 (fun q st => ∃ k : Nat, q = (n + 1) - k ∧ k ≤ (n + 1) ∧ st.sl 5 = aI k ∧ st.sl 4 = aS (strB (91 :: Lib.join ((c.take k).map Lib.itoa) [32]))) (n + 1) ?_ ?_
        · exact ⟨0, rfl, Nat.zero_le _, by simp only [stB, reduceIte, reduceCtorEq, Nat.reduceEqDiff, Nat.reduceAdd, Nat.reduceMul, Nat.reduceLeDiff, Nat.reduceLT, Nat.reduceSub, Nat.reduceBEq]; rfl, by simp only [stB, reduceIte, reduceCtorEq, Nat.reduceEqDiff, Nat.reduceAdd, Nat.reduceMul, Nat.reduceLeDiff, Nat.reduceLT, Nat.reduceSub, Nat.reduceBEq, List.take_zero, List.map_nil, Lib.join_nil]⟩
        · rintro q j2 ⟨k, rfl, hk, h5, h4⟩
          simp only [stB, reduceIte, reduceCtorEq, Nat.reduceEqDiff, Nat.reduceAdd, Nat.reduceMul, Nat.reduceLeDiff, Nat.reduceLT, Nat.reduceSub, Nat.reduceBEq] at h5 h4
          have hj := jl_le hc ho k
          rcases Nat.lt_or_ge k (n + 1) with hlt | hge
          · obtain ⟨x, hx⟩ : ∃ x, c[k]? = some x := ⟨_, List.getElem?_eq_getElem (by omega)⟩
            have hlt' : (k : Int) < (((n + 1) : Nat) : Int) := by omega
            have h0 : (0 : Int) ≤ (k : Int) := by omega
            have h8 : (k : Int) < ((8 : Nat) : Int) := by omega
            have e1 := ckCells_get _ _ _ hx
            have hxo := ho x (List.mem_of_getElem? hx)
            have hxl := Lib.itoa_length_le x hxo.1 hxo.2
            have htk : (c.take (k + 1)).map Lib.itoa = (c.take k).map Lib.itoa ++ [Lib.itoa x] := by rw [List.take_add_one, hx, List.map_append]; rfl
            by_cases hk0 : (k : Int) > 0
            · have hne : (c.take k).map Lib.itoa ≠ [] := by
                intro h
                have := congrArg List.length h
                simp only [List.length_map, List.length_take, List.length_nil] at this
                omega
              have hc1 : ((((strB (91 :: Lib.join ((c.take k).map Lib.itoa) [32])).size + (⟨#[32]⟩ : ByteArray).size : Nat)) : Int) ≤ 9223372036854775807 := cat_le (b := [32]) (by simp only [List.length_append, List.length_cons, List.length_nil]; omega)
              have hs1 : strB (91 :: Lib.join ((c.take k).map Lib.itoa) [32]) ++ (⟨#[32]⟩ : ByteArray) = strB (91 :: (Lib.join ((c.take k).map Lib.itoa) [32] ++ [32])) := by rw [show (⟨#[32]⟩ : ByteArray) = strB [32] from rfl, strB_append]; rfl
              simp only [↓evP, evB, stB, reduceIte, reduceCtorEq, Nat.reduceEqDiff, Nat.reduceAdd, Nat.reduceMul, Nat.reduceLeDiff, Nat.reduceLT, Nat.reduceSub, Nat.reduceBEq, h3, h5, h4, hlt', hk0, h0, h8, e1, hc1, hs1, decide_true, Nat.mul_one, Nat.zero_add, Int.toNat_natCast]
              refine callOps_intro [pS (strB (Lib.itoa x))] (by exact ⟨x, hxo, rfl, rfl⟩) ?_
              have hc2 := cat_le (a := 91 :: (Lib.join ((c.take k).map Lib.itoa) [32] ++ [32])) (b := Lib.itoa x) (by simp only [List.length_append, List.length_cons, List.length_nil]; omega)
              have hs2 : strB (91 :: (Lib.join ((c.take k).map Lib.itoa) [32] ++ [32])) ++ strB (Lib.itoa x) = strB (91 :: Lib.join ((c.take (k + 1)).map Lib.itoa) [32]) := by rw [strB_append, htk, join_snoc _ _ _ hne]; simp
              simp only [↓evP, evB, stB, reduceIte, reduceCtorEq, Nat.reduceEqDiff, Nat.reduceAdd, Nat.reduceMul, Nat.reduceLeDiff, Nat.reduceLT, Nat.reduceSub, Nat.reduceBEq, h3, h5, h4, hc2, hs2]
              exact ⟨_, by omega, (by repeat' (first | assumption | exact within_over.mpr trivial | exact Within.refl _ _ _ | (refine within_ap ?_ rfl rfl) | (refine within_ap0 ?_ rfl))), k + 1, rfl, by omega, by simp only [stB, reduceIte, reduceCtorEq, Nat.reduceEqDiff, Nat.reduceAdd, Nat.reduceMul, Nat.reduceLeDiff, Nat.reduceLT, Nat.reduceSub, Nat.reduceBEq, h5]; rw [wrN (by omega)], by simp only [stB, reduceIte, reduceCtorEq, Nat.reduceEqDiff, Nat.reduceAdd, Nat.reduceMul, Nat.reduceLeDiff, Nat.reduceLT, Nat.reduceSub, Nat.reduceBEq]⟩
            · have hkz : k = 0 := by omega
              subst hkz
              simp only [List.take_zero, List.map_nil, Lib.join_nil] at h4
              simp only [↓evP, evB, stB, reduceIte, reduceCtorEq, Nat.reduceEqDiff, Nat.reduceAdd, Nat.reduceMul, Nat.reduceLeDiff, Nat.reduceLT, Nat.reduceSub, Nat.reduceBEq, h3, h5, h4, hlt', hk0, h0, h8, e1, decide_true, decide_false, Nat.mul_one, Nat.zero_add, Int.toNat_natCast, Int.toNat_zero]
              refine callOps_intro [pS (strB (Lib.itoa x))] (by exact ⟨x, hxo, rfl, rfl⟩) ?_
              have hc2 := cat_le (a := [91]) (b := Lib.itoa x) (by simp; omega)
              have hs2 : strB [91] ++ strB (Lib.itoa x) = strB (91 :: Lib.join ((c.take (0 + 1)).map Lib.itoa) [32]) := by rw [strB_append, htk]; simp [Lib.join_one]
              simp only [↓evP, evB, stB, reduceIte, reduceCtorEq, Nat.reduceEqDiff, Nat.reduceAdd, Nat.reduceMul, Nat.reduceLeDiff, Nat.reduceLT, Nat.reduceSub, Nat.reduceBEq, h3, h5, h4, hc2, hs2]
              exact ⟨_, by omega, (by repeat' (first | assumption | exact within_over.mpr trivial | exact Within.refl _ _ _ | (refine within_ap ?_ rfl rfl) | (refine within_ap0 ?_ rfl))), 0 + 1, rfl, by omega, by simp only [stB, reduceIte, reduceCtorEq, Nat.reduceEqDiff, Nat.reduceAdd, Nat.reduceMul, Nat.reduceLeDiff, Nat.reduceLT, Nat.reduceSub, Nat.reduceBEq, h5]; rw [wrN (by omega)], by simp only [stB, reduceIte, reduceCtorEq, Nat.reduceEqDiff, Nat.reduceAdd, Nat.reduceMul, Nat.reduceLeDiff, Nat.reduceLT, Nat.reduceSub, Nat.reduceBEq]⟩
          · have hkl : k = (n + 1) := by omega
            rw [hkl] at h5 h4
            have hlt' : ¬ (((n + 1) : Nat) : Int) < (((n + 1) : Nat) : Int) := by omega
            have hj := jl_le hc ho (n + 1)
            have hc3 : ((((strB (91 :: Lib.join ((c.take (n + 1)).map Lib.itoa) [32])).size + (⟨#[93]⟩ : ByteArray).size : Nat)) : Int) ≤ 9223372036854775807 := cat_le (b := [93]) (by simp only [List.length_append, List.length_cons, List.length_nil]; omega)
            have hs3 : strB (91 :: Lib.join ((c.take (n + 1)).map Lib.itoa) [32]) ++ (⟨#[93]⟩ : ByteArray) = strB (ctext c) := by rw [show (⟨#[93]⟩ : ByteArray) = strB [93] from rfl, strB_append, hq]; rfl
            simp only [↓evP, evB, stB, reduceIte, reduceCtorEq, Nat.reduceEqDiff, Nat.reduceAdd, Nat.reduceMul, Nat.reduceLeDiff, Nat.reduceLT, Nat.reduceSub, Nat.reduceBEq, h3, h5, h4, hlt', hc3, hs3, decide_false, pS, pr24]
end Go.Proofs.YthnjbnfnljjepaaDoor
end
section
set_option linter.unusedSimpArgs false
set_option linter.unusedVariables false
namespace Go.Proofs.YthnjbnfnljjepaaDoor
open Go Go.RowKit
set_option maxRecDepth 100000
set_option maxHeartbeats 4000000

theorem bget (b : ByteArray) (i : Nat) : b[i]? = b.data.toList[i]? := by
  by_cases h : i < b.size
  · rw [getElem?_pos b i h, List.getElem?_eq_getElem (by simpa using h)]
    show some b.data[i] = some b.data.toList[i]
    rw [Array.getElem_toList]
  · rw [getElem?_neg b i h, List.getElem?_eq_none (by simpa using h)]
theorem numU_cons (b : UInt8) (r : List UInt8) (u : Nat) : numU (b :: r) u = if 48 ≤ b.toNat ∧ b.toNat ≤ 57 then numU r (10 * u + (b.toNat - 48)) else none := rfl
theorem ext_list (b : ByteArray) (i j : Nat) : (b.extract i j).data.toList = (b.data.toList.take j).drop i := by
  rw [ByteArray.data_extract, Array.toList_extract, List.extract_eq_take_drop, List.drop_take]
theorem size_list (b : ByteArray) : b.size = b.data.toList.length := by simp
def R_num (ps rs : List Pa) : Prop := ∃ s : ByteArray, ps = [pS s] ∧ s.size ≤ 100000 ∧ rs = [pI (numF s.data.toList).1, pB (numF s.data.toList).2]
theorem R_num.mk {s : ByteArray} (h : s.size ≤ 100000) : R_num [pS s] [pI (numF s.data.toList).1, pB (numF s.data.toList).2] := ⟨s, rfl, h, rfl⟩
theorem numF_bad {w : List UInt8} (h : badL w = true) : numF w = (0, false) := by unfold numF; rw [if_pos h]
theorem numF_none {w : List UInt8} (h : numU (magL w) 0 = none) : numF w = (0, false) := by
  unfold numF
  split
  · rfl
  · rw [h]
theorem pow_le18 {k : Nat} (h : k ≤ 18) : 10 ^ k ≤ 1000000000000000000 := Nat.pow_le_pow_right (by omega) h
theorem u8_lt (b : UInt8) : b.toNat < 256 := b.toNat_lt
theorem num_tail : True := trivial
theorem s_rNumber : Spec Tryd.prog 32 R_num := by
  refine sp32 EnvOK.e0 ?_
  rintro ps rs ⟨s, rfl, hs, rfl⟩
  refine ⟨by simp, ?_⟩
  unfold pc32
  refine pwp_start ?_
  have nn0 : ((0 : Int) ≤ 0) = True := by simp
  by_cases e0 : (s.size : Int) > 0
  case neg =>
    have hsz : s.size = 0 := by omega
    have hb : badL s.data.toList = true := by
      have : s.data.toList = [] := List.eq_nil_of_length_eq_zero (by rw [← size_list]; exact hsz)
      rw [this]; rfl
    have q0 : ((s.size : Int) == 0) = true := beq_iff_eq.2 (by omega)
    simp only [↓evP, evB, stB, reduceIte, reduceCtorEq, Nat.reduceEqDiff, Nat.reduceAdd, Nat.reduceMul, Nat.reduceLeDiff, Nat.reduceLT, Nat.reduceSub, Nat.reduceBEq, e0, q0, decide_false, numF_bad hb, pr32]
  obtain ⟨c0, hc0⟩ : ∃ c0, s.data.toList[0]? = some c0 := ⟨_, List.getElem?_eq_getElem (by rw [← size_list]; omega)⟩
  have gc : s[0]? = some c0 := by rw [bget, hc0]
  have hchd : s.data.toList.head? = some c0 := by rw [List.head?_eq_getElem?, hc0]
  by_cases y45 : c0 = 45
  · have k45 : ((c0.toNat : Int) == 45) = true := by rw [y45]; rfl
    have l1 : (1 : Int) ≤ (s.size : Int) := by omega
    have l2 : ((s.size : Int) ≤ (s.size : Int)) = True := by simp
    have l3 : ((0 : Int) ≤ 1) = True := by simp
    have l4 : (1 : Int).toNat = 1 := rfl
    obtain ⟨T, hT⟩ : ∃ T, T = s.extract 1 s.size := ⟨_, rfl⟩
    have hTl : T.data.toList = s.data.toList.drop 1 := by rw [hT, ext_list, List.take_of_length_le (by rw [← size_list]; omega)]
    have hmag : magL s.data.toList = T.data.toList := by unfold magL; rw [if_pos (by rw [hchd, y45]), hTl]
    have hh : decide (s.data.toList.head? = some 45) = true := decide_eq_true (by rw [hchd, y45])
    have hTs : T.size ≤ 100000 := by rw [hT, ByteArray.size_extract]; omega
    by_cases z0 : T.size = 0
    · have hb : badL s.data.toList = true := by unfold badL; rw [hmag, ← size_list, decide_eq_true z0]; rfl
      have q0 : ((T.size : Int) == 0) = true := beq_iff_eq.2 (by omega)
      simp only [↓evP, evB, stB, reduceIte, reduceCtorEq, Nat.reduceEqDiff, Nat.reduceAdd, Nat.reduceMul, Nat.reduceLeDiff, Nat.reduceLT, Nat.reduceSub, Nat.reduceBEq, e0, gc, nn0, Int.toNat_zero, k45, l1, l2, l3, l4, ← hT, q0, numF_bad hb, pr32]
    have q0 : ((T.size : Int) == 0) = false := beq_eq_false_iff_ne.2 (by omega)
    by_cases z19 : (T.size : Int) > 19
    · have hb : badL s.data.toList = true := by unfold badL; rw [hmag, ← size_list, decide_eq_true (show 19 < T.size by omega)]; simp
      simp only [↓evP, evB, stB, reduceIte, reduceCtorEq, Nat.reduceEqDiff, Nat.reduceAdd, Nat.reduceMul, Nat.reduceLeDiff, Nat.reduceLT, Nat.reduceSub, Nat.reduceBEq, e0, gc, nn0, Int.toNat_zero, k45, l1, l2, l3, l4, ← hT, q0, z19, decide_true, numF_bad hb, pr32]
    obtain ⟨b0, hb0⟩ : ∃ b0, T.data.toList[0]? = some b0 := ⟨_, List.getElem?_eq_getElem (by rw [← size_list]; omega)⟩
    have g0 : T[0]? = some b0 := by rw [bget, hb0]
    have hhd : T.data.toList.head? = some b0 := by rw [List.head?_eq_getElem?, hb0]
    have hbad : badL s.data.toList = (decide (b0 = 48) && (decide (1 < T.size) || true)) := by
      unfold badL
      rw [hmag, hh, ← size_list, hhd, decide_eq_false z0, decide_eq_false (show ¬ 19 < T.size by omega)]
      simp
    by_cases y48 : b0 = 48
    · have k48 : ((b0.toNat : Int) == 48) = true := by rw [y48]; rfl
      have hb : badL s.data.toList = true := by rw [hbad, decide_eq_true y48]; simp
      by_cases z1 : (T.size : Int) > 1
      · simp only [↓evP, evB, stB, reduceIte, reduceCtorEq, Nat.reduceEqDiff, Nat.reduceAdd, Nat.reduceMul, Nat.reduceLeDiff, Nat.reduceLT, Nat.reduceSub, Nat.reduceBEq, e0, gc, nn0, Int.toNat_zero, k45, l1, l2, l3, l4, ← hT, q0, z19, g0, k48, z1, decide_true, decide_false, numF_bad hb, pr32]
      · simp only [↓evP, evB, stB, reduceIte, reduceCtorEq, Nat.reduceEqDiff, Nat.reduceAdd, Nat.reduceMul, Nat.reduceLeDiff, Nat.reduceLT, Nat.reduceSub, Nat.reduceBEq, e0, gc, nn0, Int.toNat_zero, k45, l1, l2, l3, l4, ← hT, q0, z19, g0, k48, z1, decide_true, decide_false, numF_bad hb, pr32]
    have k48 : ((b0.toNat : Int) == 48) = false := beq_eq_false_iff_ne.2 (fun h => y48 (UInt8.toNat_inj.1 (by show b0.toNat = 48; omega)))
    simp only [↓evP, evB, stB, reduceIte, reduceCtorEq, Nat.reduceEqDiff, Nat.reduceAdd, Nat.reduceMul, Nat.reduceLeDiff, Nat.reduceLT, Nat.reduceSub, Nat.reduceBEq, e0, gc, nn0, Int.toNat_zero, k45, l1, l2, l3, l4, ← hT, q0, z19, g0, decide_true, decide_false, k48]
    refine pwp_loopW ms32_0 os32_0 (fun m st => ∃ k v : Nat, m = T.size - k ∧ k ≤ T.size ∧ st.sl 7 = aI k ∧ st.sl 6 = aU v ∧ v < 10 ^ k ∧ numU T.data.toList 0 = numU (T.data.toList.drop k) v) T.size ?_ ?_
    · exact ⟨0, 0, rfl, Nat.zero_le _, by simp only [stB, reduceIte, reduceCtorEq, Nat.reduceEqDiff, Nat.reduceAdd, Nat.reduceMul, Nat.reduceLeDiff, Nat.reduceLT, Nat.reduceSub, Nat.reduceBEq]; rfl, by simp only [stB, reduceIte, reduceCtorEq, Nat.reduceEqDiff, Nat.reduceAdd, Nat.reduceMul, Nat.reduceLeDiff, Nat.reduceLT, Nat.reduceSub, Nat.reduceBEq]; rfl, by decide, rfl⟩
    · rintro m j ⟨k, v, rfl, hk, h7, h6, hv, hn⟩
      simp only [stB, reduceIte, reduceCtorEq, Nat.reduceEqDiff, Nat.reduceAdd, Nat.reduceMul, Nat.reduceLeDiff, Nat.reduceLT, Nat.reduceSub, Nat.reduceBEq] at h7 h6
      rcases Nat.lt_or_ge k T.size with hlt | hge
      · have hp := pow_le18 (show k ≤ 18 by omega)
        obtain ⟨d, hd⟩ : ∃ d, T.data.toList[k]? = some d := ⟨_, List.getElem?_eq_getElem (by rw [← size_list]; exact hlt)⟩
        have gk : T[k]? = some d := by rw [bget, hd]
        have hdr : T.data.toList.drop k = d :: T.data.toList.drop (k + 1) := by
          obtain ⟨hl, rfl⟩ := List.getElem?_eq_some_iff.1 hd
          exact List.drop_eq_getElem_cons hl
        have hlt' : (k : Int) < (T.size : Int) := by omega
        have hk0 : (0 : Int) ≤ (k : Int) := by omega
        have hd8 := u8_lt d
        rw [hdr] at hn
        rw [numU_cons] at hn
        by_cases d1 : (d.toNat : Int) < 48
        · rw [if_neg (by omega), ← hmag] at hn
          simp only [↓evP, evB, stB, reduceIte, reduceCtorEq, Nat.reduceEqDiff, Nat.reduceAdd, Nat.reduceMul, Nat.reduceLeDiff, Nat.reduceLT, Nat.reduceSub, Nat.reduceBEq, e0, gc, nn0, Int.toNat_zero, k45, l1, l2, l3, l4, ← hT, h7, h6, hlt', hk0, gk, d1, decide_true, Int.toNat_natCast, numF_none hn, pr32]
        by_cases d2 : (d.toNat : Int) > 57
        · rw [if_neg (by omega), ← hmag] at hn
          simp only [↓evP, evB, stB, reduceIte, reduceCtorEq, Nat.reduceEqDiff, Nat.reduceAdd, Nat.reduceMul, Nat.reduceLeDiff, Nat.reduceLT, Nat.reduceSub, Nat.reduceBEq, e0, gc, nn0, Int.toNat_zero, k45, l1, l2, l3, l4, ← hT, h7, h6, hlt', hk0, gk, d1, d2, decide_true, decide_false, Int.toNat_natCast, numF_none hn, pr32]
        rw [if_pos (by omega)] at hn
        have m1 : IntKind.u64.wrap (10 * (v : Int)) = ((10 * v : Nat) : Int) := by rw [wru (by omega) (by omega)]; omega
        have m2 : IntKind.u8.wrap ((d.toNat : Int) - 48) = ((d.toNat - 48 : Nat) : Int) := by rw [wru8 (by omega) (by omega)]; omega
        have m3 : IntKind.u64.wrap ((d.toNat - 48 : Nat) : Int) = ((d.toNat - 48 : Nat) : Int) := wru (by omega) (by omega)
        have m4 : IntKind.u64.wrap (((10 * v : Nat) : Int) + ((d.toNat - 48 : Nat) : Int)) = ((10 * v + (d.toNat - 48) : Nat) : Int) := by rw [wru (by omega) (by omega)]; omega
        simp only [↓evP, evB, stB, reduceIte, reduceCtorEq, Nat.reduceEqDiff, Nat.reduceAdd, Nat.reduceMul, Nat.reduceLeDiff, Nat.reduceLT, Nat.reduceSub, Nat.reduceBEq, e0, gc, nn0, Int.toNat_zero, k45, l1, l2, l3, l4, ← hT, h7, h6, hlt', hk0, gk, d1, d2, decide_true, decide_false, Int.toNat_natCast, m1, m2, m3, m4]
        exact ⟨_, by omega, (by repeat' (first | assumption | exact within_over.mpr trivial | exact Within.refl _ _ _ | (refine within_ap ?_ rfl rfl) | (refine within_ap0 ?_ rfl))), k + 1, 10 * v + (d.toNat - 48), rfl, by omega, by simp only [stB, reduceIte, reduceCtorEq, Nat.reduceEqDiff, Nat.reduceAdd, Nat.reduceMul, Nat.reduceLeDiff, Nat.reduceLT, Nat.reduceSub, Nat.reduceBEq, h7]; rw [wrN (by omega)], by simp only [stB, reduceIte, reduceCtorEq, Nat.reduceEqDiff, Nat.reduceAdd, Nat.reduceMul, Nat.reduceLeDiff, Nat.reduceLT, Nat.reduceSub, Nat.reduceBEq], by rw [Nat.pow_succ]; omega, hn⟩
      · have hkt : k = T.size := by omega
        subst hkt
        have hlt' : ¬ ((T.size : Int) < (T.size : Int)) := by omega
        have hp : 10 ^ T.size ≤ 10 ^ 19 := Nat.pow_le_pow_right (by omega) (by omega)
        rw [List.drop_eq_nil_of_le (by rw [← size_list]; omega), ← hmag] at hn
        have hfin : numF s.data.toList = (IntKind.i64.wrap (0 - IntKind.i64.wrap v), decide (v ≤ 9223372036854775808)) := by
          unfold numF
          rw [hbad, if_neg (by rw [decide_eq_false y48]; simp), hn]
          simp only [numU]
          rw [if_pos (of_decide_eq_true hh)]
        have le1 : decide ((v : Int) ≤ 9223372036854775808) = decide (v ≤ 9223372036854775808) := by rw [Bool.eq_iff_iff]; simp only [decide_eq_true_eq]; omega
        simp only [↓evP, evB, stB, reduceIte, reduceCtorEq, Nat.reduceEqDiff, Nat.reduceAdd, Nat.reduceMul, Nat.reduceLeDiff, Nat.reduceLT, Nat.reduceSub, Nat.reduceBEq, e0, gc, nn0, Int.toNat_zero, k45, l1, l2, l3, l4, ← hT, h7, h6, hlt', decide_false, le1, hfin, pI, pB, pr32]
  · have k45 : ((c0.toNat : Int) == 45) = false := beq_eq_false_iff_ne.2 (fun h => y45 (UInt8.toNat_inj.1 (by show c0.toNat = 45; omega)))
    obtain ⟨T, hT⟩ : ∃ T, T = s := ⟨_, rfl⟩
    rw [← hT] at e0 gc hchd hs
    rw [← hT]
    have hmag : magL T.data.toList = T.data.toList := by unfold magL; rw [if_neg (by rw [hchd]; simpa using y45)]
    have hh : decide (T.data.toList.head? = some 45) = false := decide_eq_false (by rw [hchd]; simpa using y45)
    have hTs : T.size ≤ 100000 := hs
    by_cases z0 : T.size = 0
    · have hb : badL T.data.toList = true := by unfold badL; rw [hmag, ← size_list, decide_eq_true z0]; rfl
      have q0 : ((T.size : Int) == 0) = true := beq_iff_eq.2 (by omega)
      simp only [↓evP, evB, stB, reduceIte, reduceCtorEq, Nat.reduceEqDiff, Nat.reduceAdd, Nat.reduceMul, Nat.reduceLeDiff, Nat.reduceLT, Nat.reduceSub, Nat.reduceBEq, e0, gc, nn0, Int.toNat_zero, k45, q0, numF_bad hb, pr32]
    have q0 : ((T.size : Int) == 0) = false := beq_eq_false_iff_ne.2 (by omega)
    by_cases z19 : (T.size : Int) > 19
    · have hb : badL T.data.toList = true := by unfold badL; rw [hmag, ← size_list, decide_eq_true (show 19 < T.size by omega)]; simp
      simp only [↓evP, evB, stB, reduceIte, reduceCtorEq, Nat.reduceEqDiff, Nat.reduceAdd, Nat.reduceMul, Nat.reduceLeDiff, Nat.reduceLT, Nat.reduceSub, Nat.reduceBEq, e0, gc, nn0, Int.toNat_zero, k45, q0, z19, decide_true, numF_bad hb, pr32]
    obtain ⟨b0, hb0⟩ : ∃ b0, T.data.toList[0]? = some b0 := ⟨_, List.getElem?_eq_getElem (by rw [← size_list]; omega)⟩
    have g0 : T[0]? = some b0 := by rw [bget, hb0]
    obtain rfl : b0 = c0 := Option.some.inj (g0.symm.trans gc)
    have hhd : T.data.toList.head? = some b0 := by rw [List.head?_eq_getElem?, hb0]
    have hbad : badL T.data.toList = (decide (b0 = 48) && (decide (1 < T.size) || false)) := by
      unfold badL
      rw [hmag, hh, ← size_list, hhd, decide_eq_false z0, decide_eq_false (show ¬ 19 < T.size by omega)]
      simp
    by_cases y48 : b0 = 48
    · have k48 : ((b0.toNat : Int) == 48) = true := by rw [y48]; rfl
      by_cases z1 : (T.size : Int) > 1
      · have hb : badL T.data.toList = true := by rw [hbad, decide_eq_true y48, decide_eq_true (show 1 < T.size by omega)]; rfl
        simp only [↓evP, evB, stB, reduceIte, reduceCtorEq, Nat.reduceEqDiff, Nat.reduceAdd, Nat.reduceMul, Nat.reduceLeDiff, Nat.reduceLT, Nat.reduceSub, Nat.reduceBEq, e0, gc, nn0, Int.toNat_zero, k45, q0, z19, g0, k48, z1, decide_true, decide_false, numF_bad hb, pr32]
      simp only [↓evP, evB, stB, reduceIte, reduceCtorEq, Nat.reduceEqDiff, Nat.reduceAdd, Nat.reduceMul, Nat.reduceLeDiff, Nat.reduceLT, Nat.reduceSub, Nat.reduceBEq, e0, gc, nn0, Int.toNat_zero, k45, q0, z19, g0, decide_true, decide_false, k48, z1]
      refine pwp_loopW ms32_0 os32_0 (fun m st => ∃ k v : Nat, m = T.size - k ∧ k ≤ T.size ∧ st.sl 7 = aI k ∧ st.sl 6 = aU v ∧ v < 10 ^ k ∧ numU T.data.toList 0 = numU (T.data.toList.drop k) v) T.size ?_ ?_
      · exact ⟨0, 0, rfl, Nat.zero_le _, by simp only [stB, reduceIte, reduceCtorEq, Nat.reduceEqDiff, Nat.reduceAdd, Nat.reduceMul, Nat.reduceLeDiff, Nat.reduceLT, Nat.reduceSub, Nat.reduceBEq]; rfl, by simp only [stB, reduceIte, reduceCtorEq, Nat.reduceEqDiff, Nat.reduceAdd, Nat.reduceMul, Nat.reduceLeDiff, Nat.reduceLT, Nat.reduceSub, Nat.reduceBEq]; rfl, by decide, rfl⟩
      · rintro m j ⟨k, v, rfl, hk, h7, h6, hv, hn⟩
        simp only [stB, reduceIte, reduceCtorEq, Nat.reduceEqDiff, Nat.reduceAdd, Nat.reduceMul, Nat.reduceLeDiff, Nat.reduceLT, Nat.reduceSub, Nat.reduceBEq] at h7 h6
        rcases Nat.lt_or_ge k T.size with hlt | hge
        · have hp := pow_le18 (show k ≤ 18 by omega)
          obtain ⟨d, hd⟩ : ∃ d, T.data.toList[k]? = some d := ⟨_, List.getElem?_eq_getElem (by rw [← size_list]; exact hlt)⟩
          have gk : T[k]? = some d := by rw [bget, hd]
          have hdr : T.data.toList.drop k = d :: T.data.toList.drop (k + 1) := by
            obtain ⟨hl, rfl⟩ := List.getElem?_eq_some_iff.1 hd
            exact List.drop_eq_getElem_cons hl
          have hlt' : (k : Int) < (T.size : Int) := by omega
          have hk0 : (0 : Int) ≤ (k : Int) := by omega
          have hd8 := u8_lt d
          rw [hdr] at hn
          rw [numU_cons] at hn
          by_cases d1 : (d.toNat : Int) < 48
          · rw [if_neg (by omega), ← hmag] at hn
            simp only [↓evP, evB, stB, reduceIte, reduceCtorEq, Nat.reduceEqDiff, Nat.reduceAdd, Nat.reduceMul, Nat.reduceLeDiff, Nat.reduceLT, Nat.reduceSub, Nat.reduceBEq, e0, gc, nn0, Int.toNat_zero, k45, h7, h6, hlt', hk0, gk, d1, decide_true, Int.toNat_natCast, numF_none hn, pr32]
          by_cases d2 : (d.toNat : Int) > 57
          · rw [if_neg (by omega), ← hmag] at hn
            simp only [↓evP, evB, stB, reduceIte, reduceCtorEq, Nat.reduceEqDiff, Nat.reduceAdd, Nat.reduceMul, Nat.reduceLeDiff, Nat.reduceLT, Nat.reduceSub, Nat.reduceBEq, e0, gc, nn0, Int.toNat_zero, k45, h7, h6, hlt', hk0, gk, d1, d2, decide_true, decide_false, Int.toNat_natCast, numF_none hn, pr32]
          rw [if_pos (by omega)] at hn
          have m1 : IntKind.u64.wrap (10 * (v : Int)) = ((10 * v : Nat) : Int) := by rw [wru (by omega) (by omega)]; omega
          have m2 : IntKind.u8.wrap ((d.toNat : Int) - 48) = ((d.toNat - 48 : Nat) : Int) := by rw [wru8 (by omega) (by omega)]; omega
          have m3 : IntKind.u64.wrap ((d.toNat - 48 : Nat) : Int) = ((d.toNat - 48 : Nat) : Int) := wru (by omega) (by omega)
          have m4 : IntKind.u64.wrap (((10 * v : Nat) : Int) + ((d.toNat - 48 : Nat) : Int)) = ((10 * v + (d.toNat - 48) : Nat) : Int) := by rw [wru (by omega) (by omega)]; omega
          simp only [↓evP, evB, stB, reduceIte, reduceCtorEq, Nat.reduceEqDiff, Nat.reduceAdd, Nat.reduceMul, Nat.reduceLeDiff, Nat.reduceLT, Nat.reduceSub, Nat.reduceBEq, e0, gc, nn0, Int.toNat_zero, k45, h7, h6, hlt', hk0, gk, d1, d2, decide_true, decide_false, Int.toNat_natCast, m1, m2, m3, m4]
          exact ⟨_, by omega, (by repeat' (first | assumption | exact within_over.mpr trivial | exact Within.refl _ _ _ | (refine within_ap ?_ rfl rfl) | (refine within_ap0 ?_ rfl))), k + 1, 10 * v + (d.toNat - 48), rfl, by omega, by simp only [stB, reduceIte, reduceCtorEq, Nat.reduceEqDiff, Nat.reduceAdd, Nat.reduceMul, Nat.reduceLeDiff, Nat.reduceLT, Nat.reduceSub, Nat.reduceBEq, h7]; rw [wrN (by omega)], by simp only [stB, reduceIte, reduceCtorEq, Nat.reduceEqDiff, Nat.reduceAdd, Nat.reduceMul, Nat.reduceLeDiff, Nat.reduceLT, Nat.reduceSub, Nat.reduceBEq], by rw [Nat.pow_succ]; omega, hn⟩
        · have hkt : k = T.size := by omega
          subst hkt
          have hlt' : ¬ ((T.size : Int) < (T.size : Int)) := by omega
          have hp : 10 ^ T.size ≤ 10 ^ 19 := Nat.pow_le_pow_right (by omega) (by omega)
          rw [List.drop_eq_nil_of_le (by rw [← size_list]; omega), ← hmag] at hn
          have hfin : numF T.data.toList = (IntKind.i64.wrap v, decide (v ≤ 9223372036854775807)) := by
            unfold numF
            rw [hbad, if_neg (by rw [decide_eq_false (show ¬ 1 < T.size by omega)]; simp), hn]
            simp only [numU]
            rw [if_neg (of_decide_eq_false hh)]
          have le1 : decide ((v : Int) ≤ 9223372036854775807) = decide (v ≤ 9223372036854775807) := by rw [Bool.eq_iff_iff]; simp only [decide_eq_true_eq]; omega
          simp only [↓evP, evB, stB, reduceIte, reduceCtorEq, Nat.reduceEqDiff, Nat.reduceAdd, Nat.reduceMul, Nat.reduceLeDiff, Nat.reduceLT, Nat.reduceSub, Nat.reduceBEq, e0, gc, nn0, Int.toNat_zero, k45, h7, h6, hlt', decide_false, le1, hfin, pI, pB, pr32]
    have k48 : ((b0.toNat : Int) == 48) = false := beq_eq_false_iff_ne.2 (fun h => y48 (UInt8.toNat_inj.1 (by show b0.toNat = 48; omega)))
    simp only [↓evP, evB, stB, reduceIte, reduceCtorEq, Nat.reduceEqDiff, Nat.reduceAdd, Nat.reduceMul, Nat.reduceLeDiff, Nat.reduceLT, Nat.reduceSub, Nat.reduceBEq, e0, gc, nn0, Int.toNat_zero, k45, q0, z19, g0, decide_true, decide_false, k48]
    refine pwp_loopW ms32_0 os32_0 (fun m st => ∃ k v : Nat, m = T.size - k ∧ k ≤ T.size ∧ st.sl 7 = aI k ∧ st.sl 6 = aU v ∧ v < 10 ^ k ∧ numU T.data.toList 0 = numU (T.data.toList.drop k) v) T.size ?_ ?_
    · exact ⟨0, 0, rfl, Nat.zero_le _, by simp only [stB, reduceIte, reduceCtorEq, Nat.reduceEqDiff, Nat.reduceAdd, Nat.reduceMul, Nat.reduceLeDiff, Nat.reduceLT, Nat.reduceSub, Nat.reduceBEq]; rfl, by simp only [stB, reduceIte, reduceCtorEq, Nat.reduceEqDiff, Nat.reduceAdd, Nat.reduceMul, Nat.reduceLeDiff, Nat.reduceLT, Nat.reduceSub, Nat.reduceBEq]; rfl, by decide, rfl⟩
    · rintro m j ⟨k, v, rfl, hk, h7, h6, hv, hn⟩
      simp only [stB, reduceIte, reduceCtorEq, Nat.reduceEqDiff, Nat.reduceAdd, Nat.reduceMul, Nat.reduceLeDiff, Nat.reduceLT, Nat.reduceSub, Nat.reduceBEq] at h7 h6
      rcases Nat.lt_or_ge k T.size with hlt | hge
      · have hp := pow_le18 (show k ≤ 18 by omega)
        obtain ⟨d, hd⟩ : ∃ d, T.data.toList[k]? = some d := ⟨_, List.getElem?_eq_getElem (by rw [← size_list]; exact hlt)⟩
        have gk : T[k]? = some d := by rw [bget, hd]
        have hdr : T.data.toList.drop k = d :: T.data.toList.drop (k + 1) := by
          obtain ⟨hl, rfl⟩ := List.getElem?_eq_some_iff.1 hd
          exact List.drop_eq_getElem_cons hl
        have hlt' : (k : Int) < (T.size : Int) := by omega
        have hk0 : (0 : Int) ≤ (k : Int) := by omega
        have hd8 := u8_lt d
        rw [hdr] at hn
        rw [numU_cons] at hn
        by_cases d1 : (d.toNat : Int) < 48
        · rw [if_neg (by omega), ← hmag] at hn
          simp only [↓evP, evB, stB, reduceIte, reduceCtorEq, Nat.reduceEqDiff, Nat.reduceAdd, Nat.reduceMul, Nat.reduceLeDiff, Nat.reduceLT, Nat.reduceSub, Nat.reduceBEq, e0, gc, nn0, Int.toNat_zero, k45, h7, h6, hlt', hk0, gk, d1, decide_true, Int.toNat_natCast, numF_none hn, pr32]
        by_cases d2 : (d.toNat : Int) > 57
        · rw [if_neg (by omega), ← hmag] at hn
          simp only [↓evP, evB, stB, reduceIte, reduceCtorEq, Nat.reduceEqDiff, Nat.reduceAdd, Nat.reduceMul, Nat.reduceLeDiff, Nat.reduceLT, Nat.reduceSub, Nat.reduceBEq, e0, gc, nn0, Int.toNat_zero, k45, h7, h6, hlt', hk0, gk, d1, d2, decide_true, decide_false, Int.toNat_natCast, numF_none hn, pr32]
        rw [if_pos (by omega)] at hn
        have m1 : IntKind.u64.wrap (10 * (v : Int)) = ((10 * v : Nat) : Int) := by rw [wru (by omega) (by omega)]; omega
        have m2 : IntKind.u8.wrap ((d.toNat : Int) - 48) = ((d.toNat - 48 : Nat) : Int) := by rw [wru8 (by omega) (by omega)]; omega
        have m3 : IntKind.u64.wrap ((d.toNat - 48 : Nat) : Int) = ((d.toNat - 48 : Nat) : Int) := wru (by omega) (by omega)
        have m4 : IntKind.u64.wrap (((10 * v : Nat) : Int) + ((d.toNat - 48 : Nat) : Int)) = ((10 * v + (d.toNat - 48) : Nat) : Int) := by rw [wru (by omega) (by omega)]; omega
        simp only [↓evP, evB, stB, reduceIte, reduceCtorEq, Nat.reduceEqDiff, Nat.reduceAdd, Nat.reduceMul, Nat.reduceLeDiff, Nat.reduceLT, Nat.reduceSub, Nat.reduceBEq, e0, gc, nn0, Int.toNat_zero, k45, h7, h6, hlt', hk0, gk, d1, d2, decide_true, decide_false, Int.toNat_natCast, m1, m2, m3, m4]
        exact ⟨_, by omega, (by repeat' (first | assumption | exact within_over.mpr trivial | exact Within.refl _ _ _ | (refine within_ap ?_ rfl rfl) | (refine within_ap0 ?_ rfl))), k + 1, 10 * v + (d.toNat - 48), rfl, by omega, by simp only [stB, reduceIte, reduceCtorEq, Nat.reduceEqDiff, Nat.reduceAdd, Nat.reduceMul, Nat.reduceLeDiff, Nat.reduceLT, Nat.reduceSub, Nat.reduceBEq, h7]; rw [wrN (by omega)], by simp only [stB, reduceIte, reduceCtorEq, Nat.reduceEqDiff, Nat.reduceAdd, Nat.reduceMul, Nat.reduceLeDiff, Nat.reduceLT, Nat.reduceSub, Nat.reduceBEq], by rw [Nat.pow_succ]; omega, hn⟩
      · have hkt : k = T.size := by omega
        subst hkt
        have hlt' : ¬ ((T.size : Int) < (T.size : Int)) := by omega
        have hp : 10 ^ T.size ≤ 10 ^ 19 := Nat.pow_le_pow_right (by omega) (by omega)
        rw [List.drop_eq_nil_of_le (by rw [← size_list]; omega), ← hmag] at hn
        have hfin : numF T.data.toList = (IntKind.i64.wrap v, decide (v ≤ 9223372036854775807)) := by
          unfold numF
          rw [hbad, if_neg (by rw [decide_eq_false y48]; simp), hn]
          simp only [numU]
          rw [if_neg (of_decide_eq_false hh)]
        have le1 : decide ((v : Int) ≤ 9223372036854775807) = decide (v ≤ 9223372036854775807) := by rw [Bool.eq_iff_iff]; simp only [decide_eq_true_eq]; omega
        simp only [↓evP, evB, stB, reduceIte, reduceCtorEq, Nat.reduceEqDiff, Nat.reduceAdd, Nat.reduceMul, Nat.reduceLeDiff, Nat.reduceLT, Nat.reduceSub, Nat.reduceBEq, e0, gc, nn0, Int.toNat_zero, k45, h7, h6, hlt', decide_false, le1, hfin, pI, pB, pr32]
end Go.Proofs.YthnjbnfnljjepaaDoor
end
