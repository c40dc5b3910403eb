/-
  The kit's contracts of Go's library, laid at this program.
  No condition beyond those written in each theorem.
-/
import Derived.Shelf.Strings.Builder1
import Derived.Shelf.Strings.Builder2
import Derived.Shelf.Strings.OnBuilder
import Derived.Shelf.Strings.Trim
import Derived.Shelf.Small.Utf8
import Derived.Shelf.Small.Bits
import Derived.Shelf.Small.Strs
import Derived.Shelf.Small.Wraps
import Derived.Shelf.Strings.BuilderF
import Derived.Shelf.Strings.BuilderK
import Derived.Shelf.Strconv.Atoi
import Derived.Shelf.Strconv.Itoa0
import Derived.Shelf.Strconv.Itoa1
import Derived.Shelf.LaysM
import Derived.Shelf.Strconv.Itoa2
import Derived.Shelf.Strconv.Itoa3
import Derived.Shelf.Strings.Search1
import Derived.Shelf.Strings.Search2
import Derived.Shelf.Strings.Search3
import Derived.Shelf.Strings.Cut
import Derived.Shelf.Strings.Count
import Derived.Shelf.Strings.Shaped
import Derived.Shelf.Sort.Plain
import Derived.Shelf.Strings.LastIndex
import Derived.Shelf.Strings.Prefix
import Derived.Shelf.Strings.Split
import Derived.Shelf.Strings.SplitShaped
import Derived.Shelf.Strings.Runes
import Derived.Shelf.Strings.AsciiSet
import Derived.Shelf.Bits.Mul64
import Derived.Shelf.Strings.Repeat
import Derived.Shelf.Unicode.DecodeSlow
import Derived.Shelf.Unicode.DecodeAny
import Derived.Shelf.Unicode.DecodeLast
import Derived.Shelf.Strings.FieldsFuncAny
import Derived.Shelf.Strings.FieldsFuncGrows
import Derived.Shelf.Slices.Turned
import Derived.Shelf.Slices.In.SortNone
import Derived.Test.YtmngcdfpanhmoaaGreatDoorProg
import Derived.Shelf.SlIter.Nil
import Derived.Shelf.Strings.SlTrimAscii
import Derived.Shelf.Spec.TrailingZeros
namespace Go.Proofs
open Go.Shelf
def Kx.lays156_ren : Go.Shelf.Ren := ⟨fun | 156 => 43 | 165 => 84 | 166 => 29 | 169 => 33 | 240 => 65 | 241 => 125 | 276 => 110 | 277 => 172 | n => n, fun | 31 => 28 | 9 => 9 | 3 => 3 | 4 => 4 | 0 => 0 | 20 => 20 | 72 => 85 | 76 => 88 | 70 => 82 | 37 => 83 | 75 => 87 | 127 => 131 | 164 => 171 | 5 => 5 | 80 => 93 | n => n, fun | n => n⟩
theorem Kx.lays156 : Go.Proofs.Lays.n156 Tryz.prog Kx.lays156_ren := {
  mixed := by kernel_rfl
  f156 := Tryz.func43.trans (congrArg some (by kernel_rfl))
  f165 := Tryz.func84.trans (congrArg some (by kernel_rfl))
  f166 := Tryz.func29.trans (congrArg some (by kernel_rfl))
  f169 := Tryz.func33.trans (congrArg some (by kernel_rfl))
  f240 := Tryz.func65.trans (congrArg some (by kernel_rfl))
  f241 := Tryz.func125.trans (congrArg some (by kernel_rfl))
  f276 := Tryz.func110.trans (congrArg some (by kernel_rfl))
  f277 := Tryz.func172.trans (congrArg some (by kernel_rfl))
  t0 := Tryz.underlying0
  a0 := Tryz.isAgg0
  z0 := Tryz.sizeOf0
  v0 := Tryz.zeroValue0
  t3 := Tryz.underlying3
  a3 := Tryz.isAgg3
  z3 := Tryz.sizeOf3
  v3 := Tryz.zeroValue3
  t4 := Tryz.underlying4
  a4 := Tryz.isAgg4
  z4 := Tryz.sizeOf4
  v4 := Tryz.zeroValue4
  t9 := Tryz.underlying9
  a9 := Tryz.isAgg9
  z9 := Tryz.sizeOf9
  v9 := Tryz.zeroValue9
  t20 := Tryz.underlying20
  a20 := Tryz.isAgg20
  z20 := Tryz.sizeOf20
  v20 := Tryz.zeroValue20
  t31 := Tryz.underlying28
  a31 := Tryz.isAgg28
  z31 := Tryz.sizeOf28
  v31 := Tryz.zeroValue28
  t37 := Tryz.underlying83
  a37 := Tryz.isAgg83
  z37 := Tryz.sizeOf83
  v37 := Tryz.zeroValue83
  t70 := Tryz.underlying82
  a70 := Tryz.isAgg82
  z70 := Tryz.sizeOf82
  v70 := Tryz.zeroValue82
  t72 := Tryz.underlying85
  a72 := Tryz.isAgg85
  z72 := Tryz.sizeOf85
  v72 := Tryz.zeroValue85
  t75 := Tryz.underlying87
  a75 := Tryz.isAgg87
  z75 := Tryz.sizeOf87
  v75 := Tryz.zeroValue87
  t76 := Tryz.underlying88
  a76 := Tryz.isAgg88
  z76 := Tryz.sizeOf88
  v76 := Tryz.zeroValue88
  t127 := Tryz.underlying131
  a127 := Tryz.isAgg131
  z127 := Tryz.sizeOf131
  v127 := Tryz.zeroValue131
  t164 := Tryz.underlying171
  a164 := Tryz.isAgg171
  z164 := Tryz.sizeOf171
  v164 := Tryz.zeroValue171 }
theorem Kx.Builder_Extra_156 : Builder.Extra Tryz.prog Kx.lays156_ren := {
  sizeBuilder := by kernel_rfl
  liesBuilder := by kernel_rfl
  t5 := Tryz.underlying5
  a5 := Tryz.isAgg5
  z5 := Tryz.sizeOf5
  v5 := Tryz.zeroValue5
  infoByte := by kernel_rfl
  cellsByte := by kernel_rfl
  sizeByte := by kernel_rfl
  neB5 := by decide }
open Go.RowKit in
/-- No element: the empty string; the world is as it was. (Whatever the slice's address and capacity: a nil slice too.) (LAID: no walk: one application.) -/
theorem Kx.strings_Join_none (a : Option Addr) (c : Nat) (sep : ByteArray) (w : World) :
    Calls Tryz.prog 43 #[.slice a 0 c, .string sep] w fun e w' => e = .returned (.string ⟨#[]⟩) ∧ w' = w := Any.strings_Join_none Kx.lays156 Kx.Builder_Extra_156 a c sep w
open Go.RowKit in
/-- strings.Join: "Join concatenates the elements of its first argument to create a single string. The separator string sep is placed between elements in the resulting string.": HOWEVER MANY ELEMENTS. Below the heap's end the world is as it was. (LAID: no walk: one application.) -/
theorem Kx.strings_Join (bk o c : Nat) (xs : List ByteArray) (sep : ByteArray) (w : World) (hcells : ∀ (j : Nat) x, xs[j]? = some x → w.cell? ⟨bk, o + j, none⟩ = some (.string x)) (hbk : bk < w.heap.size) (hN : xs.length ≤ 140737488355328) (hcap : xs.length ≤ c) (hlen : (Lib.join (xs.map (·.data.toList)) sep.data.toList).length ≤ 140737488355328) :
    Calls Tryz.prog 43 #[.slice (some ⟨bk, o, none⟩) xs.length c, .string sep] w fun e w' => e = .returned (.string ⟨(Lib.join (xs.map (·.data.toList)) sep.data.toList).toArray⟩) ∧ Below w.heap.size w w' := Any.strings_Join Kx.lays156 Kx.Builder_Extra_156 bk o c xs sep w hcells hbk hN hcap hlen
def Kx.lays160_ren : Go.Shelf.Ren := ⟨fun | 160 => 118 | 232 => 164 | 231 => 163 | 227 => 165 | 234 => 167 | 233 => 166 | 236 => 169 | 235 => 168 | 228 => 222 | 271 => 224 | 151 => 223 | 197 => 174 | 120 => 251 | 152 => 250 | 260 => 226 | 137 => 266 | 119 => 267 | 224 => 220 | 225 => 219 | 217 => 218 | 266 => 248 | n => n, fun | 9 => 9 | 4 => 4 | 3 => 3 | 5 => 5 | 117 => 226 | 116 => 225 | 0 => 0 | 124 => 229 | 21 => 21 | 105 => 234 | 46 => 127 | 119 => 268 | 139 => 271 | 138 => 270 | n => n, fun | 3 => 4 | 4 => 5 | n => n⟩
theorem Kx.lays160 : Go.Proofs.Lays.n160 Tryz.prog Kx.lays160_ren := {
  mixed := by kernel_rfl
  f119 := Tryz.func267.trans (congrArg some (by kernel_rfl))
  f120 := Tryz.func251.trans (congrArg some (by kernel_rfl))
  f137 := Tryz.func266.trans (congrArg some (by kernel_rfl))
  f151 := Tryz.func223.trans (congrArg some (by kernel_rfl))
  f152 := Tryz.func250.trans (congrArg some (by kernel_rfl))
  f160 := Tryz.func118.trans (congrArg some (by kernel_rfl))
  f197 := Tryz.func174.trans (congrArg some (by kernel_rfl))
  f217 := Tryz.func218.trans (congrArg some (by kernel_rfl))
  f224 := Tryz.func220.trans (congrArg some (by kernel_rfl))
  f225 := Tryz.func219.trans (congrArg some (by kernel_rfl))
  f227 := Tryz.func165.trans (congrArg some (by kernel_rfl))
  f228 := Tryz.func222.trans (congrArg some (by kernel_rfl))
  f231 := Tryz.func163.trans (congrArg some (by kernel_rfl))
  f232 := Tryz.func164.trans (congrArg some (by kernel_rfl))
  f233 := Tryz.func166.trans (congrArg some (by kernel_rfl))
  f234 := Tryz.func167.trans (congrArg some (by kernel_rfl))
  f235 := Tryz.func168.trans (congrArg some (by kernel_rfl))
  f236 := Tryz.func169.trans (congrArg some (by kernel_rfl))
  f260 := Tryz.func226.trans (congrArg some (by kernel_rfl))
  f266 := Tryz.func248.trans (congrArg some (by kernel_rfl))
  f271 := Tryz.func224.trans (congrArg some (by kernel_rfl))
  t0 := Tryz.underlying0
  a0 := Tryz.isAgg0
  z0 := Tryz.sizeOf0
  v0 := Tryz.zeroValue0
  t3 := Tryz.underlying3
  a3 := Tryz.isAgg3
  z3 := Tryz.sizeOf3
  v3 := Tryz.zeroValue3
  t4 := Tryz.underlying4
  a4 := Tryz.isAgg4
  z4 := Tryz.sizeOf4
  v4 := Tryz.zeroValue4
  t5 := Tryz.underlying5
  a5 := Tryz.isAgg5
  z5 := Tryz.sizeOf5
  v5 := Tryz.zeroValue5
  t9 := Tryz.underlying9
  a9 := Tryz.isAgg9
  z9 := Tryz.sizeOf9
  v9 := Tryz.zeroValue9
  t21 := Tryz.underlying21
  a21 := Tryz.isAgg21
  z21 := Tryz.sizeOf21
  v21 := Tryz.zeroValue21
  t46 := Tryz.underlying127
  a46 := Tryz.isAgg127
  z46 := Tryz.sizeOf127
  v46 := Tryz.zeroValue127
  t105 := Tryz.underlying234
  a105 := Tryz.isAgg234
  z105 := Tryz.sizeOf234
  v105 := Tryz.zeroValue234
  t116 := Tryz.underlying225
  a116 := Tryz.isAgg225
  z116 := Tryz.sizeOf225
  t117 := Tryz.underlying226
  a117 := Tryz.isAgg226
  z117 := Tryz.sizeOf226
  v117 := Tryz.zeroValue226
  t119 := Tryz.underlying268
  a119 := Tryz.isAgg268
  z119 := Tryz.sizeOf268
  t124 := Tryz.underlying229
  a124 := Tryz.isAgg229
  z124 := Tryz.sizeOf229
  v124 := Tryz.zeroValue229
  t138 := Tryz.underlying270
  a138 := Tryz.isAgg270
  z138 := Tryz.sizeOf270
  v138 := Tryz.zeroValue270
  t139 := Tryz.underlying271
  a139 := Tryz.isAgg271
  z139 := Tryz.sizeOf271
  v139 := Tryz.zeroValue271
  g3 := by kernel_rfl
  g4 := by kernel_rfl }
def Kx.lays172_ren : Go.Shelf.Ren := ⟨fun | 172 => 45 | 244 => 86 | 245 => 87 | 247 => 129 | 279 => 130 | 280 => 131 | 281 => 132 | 282 => 133 | 287 => 176 | 316 => 177 | 171 => 32 | 205 => 178 | 321 => 227 | 322 => 228 | 243 => 69 | 246 => 115 | 283 => 153 | 284 => 154 | 285 => 155 | 286 => 156 | 129 => 213 | 317 => 212 | 318 => 214 | 319 => 215 | 320 => 216 | 337 => 246 | 338 => 247 | n => n, fun | 9 => 9 | 3 => 3 | 75 => 87 | 76 => 88 | 4 => 4 | 5 => 5 | 167 => 190 | 37 => 83 | 0 => 0 | 85 => 191 | 2 => 2 | 168 => 193 | 53 => 37 | 175 => 236 | 46 => 127 | 210 => 239 | 127 => 131 | 145 => 261 | 143 => 259 | 21 => 21 | 171 => 210 | 173 => 212 | 212 => 251 | 51 => 218 | 20 => 20 | 213 => 252 | 232 => 286 | 233 => 287 | 80 => 93 | n => n, fun | 15 => 1 | 16 => 2 | 17 => 3 | 18 => 6 | 19 => 7 | n => n⟩
theorem Kx.lays172 : Go.Proofs.Lays.n172 Tryz.prog Kx.lays172_ren := {
  mixed := by kernel_rfl
  f129 := Tryz.func213.trans (congrArg some (by kernel_rfl))
  f171 := Tryz.func32.trans (congrArg some (by kernel_rfl))
  f172 := Tryz.func45.trans (congrArg some (by kernel_rfl))
  f205 := Tryz.func178.trans (congrArg some (by kernel_rfl))
  f243 := Tryz.func69.trans (congrArg some (by kernel_rfl))
  f244 := Tryz.func86.trans (congrArg some (by kernel_rfl))
  f245 := Tryz.func87.trans (congrArg some (by kernel_rfl))
  f246 := Tryz.func115.trans (congrArg some (by kernel_rfl))
  f247 := Tryz.func129.trans (congrArg some (by kernel_rfl))
  f279 := Tryz.func130.trans (congrArg some (by kernel_rfl))
  f280 := Tryz.func131.trans (congrArg some (by kernel_rfl))
  f281 := Tryz.func132.trans (congrArg some (by kernel_rfl))
  f282 := Tryz.func133.trans (congrArg some (by kernel_rfl))
  f283 := Tryz.func153.trans (congrArg some (by kernel_rfl))
  f284 := Tryz.func154.trans (congrArg some (by kernel_rfl))
  f285 := Tryz.func155.trans (congrArg some (by kernel_rfl))
  f286 := Tryz.func156.trans (congrArg some (by kernel_rfl))
  f287 := Tryz.func176.trans (congrArg some (by kernel_rfl))
  f316 := Tryz.func177.trans (congrArg some (by kernel_rfl))
  f317 := Tryz.func212.trans (congrArg some (by kernel_rfl))
  f318 := Tryz.func214.trans (congrArg some (by kernel_rfl))
  f319 := Tryz.func215.trans (congrArg some (by kernel_rfl))
  f320 := Tryz.func216.trans (congrArg some (by kernel_rfl))
  f321 := Tryz.func227.trans (congrArg some (by kernel_rfl))
  f322 := Tryz.func228.trans (congrArg some (by kernel_rfl))
  f337 := Tryz.func246.trans (congrArg some (by kernel_rfl))
  f338 := Tryz.func247.trans (congrArg some (by kernel_rfl))
  t0 := Tryz.underlying0
  a0 := Tryz.isAgg0
  z0 := Tryz.sizeOf0
  v0 := Tryz.zeroValue0
  t2 := Tryz.underlying2
  a2 := Tryz.isAgg2
  z2 := Tryz.sizeOf2
  v2 := Tryz.zeroValue2
  t3 := Tryz.underlying3
  a3 := Tryz.isAgg3
  z3 := Tryz.sizeOf3
  v3 := Tryz.zeroValue3
  t4 := Tryz.underlying4
  a4 := Tryz.isAgg4
  z4 := Tryz.sizeOf4
  v4 := Tryz.zeroValue4
  t5 := Tryz.underlying5
  a5 := Tryz.isAgg5
  z5 := Tryz.sizeOf5
  v5 := Tryz.zeroValue5
  t9 := Tryz.underlying9
  a9 := Tryz.isAgg9
  z9 := Tryz.sizeOf9
  v9 := Tryz.zeroValue9
  t20 := Tryz.underlying20
  a20 := Tryz.isAgg20
  z20 := Tryz.sizeOf20
  v20 := Tryz.zeroValue20
  t21 := Tryz.underlying21
  a21 := Tryz.isAgg21
  z21 := Tryz.sizeOf21
  v21 := Tryz.zeroValue21
  t37 := Tryz.underlying83
  a37 := Tryz.isAgg83
  z37 := Tryz.sizeOf83
  v37 := Tryz.zeroValue83
  t46 := Tryz.underlying127
  a46 := Tryz.isAgg127
  z46 := Tryz.sizeOf127
  v46 := Tryz.zeroValue127
  t51 := Tryz.underlying218
  a51 := Tryz.isAgg218
  z51 := Tryz.sizeOf218
  v51 := Tryz.zeroValue218
  t53 := Tryz.underlying37
  a53 := Tryz.isAgg37
  z53 := Tryz.sizeOf37
  v53 := Tryz.zeroValue37
  t75 := Tryz.underlying87
  a75 := Tryz.isAgg87
  z75 := Tryz.sizeOf87
  v75 := Tryz.zeroValue87
  t76 := Tryz.underlying88
  a76 := Tryz.isAgg88
  z76 := Tryz.sizeOf88
  v76 := Tryz.zeroValue88
  t85 := Tryz.underlying191
  a85 := Tryz.isAgg191
  z85 := Tryz.sizeOf191
  v85 := Tryz.zeroValue191
  t127 := Tryz.underlying131
  a127 := Tryz.isAgg131
  z127 := Tryz.sizeOf131
  v127 := Tryz.zeroValue131
  t143 := Tryz.underlying259
  a143 := Tryz.isAgg259
  z143 := Tryz.sizeOf259
  v143 := Tryz.zeroValue259
  t145 := Tryz.underlying261
  a145 := Tryz.isAgg261
  z145 := Tryz.sizeOf261
  v145 := Tryz.zeroValue261
  t167 := Tryz.underlying190
  a167 := Tryz.isAgg190
  z167 := Tryz.sizeOf190
  v167 := Tryz.zeroValue190
  t168 := Tryz.underlying193
  a168 := Tryz.isAgg193
  z168 := Tryz.sizeOf193
  v168 := Tryz.zeroValue193
  t171 := Tryz.underlying210
  a171 := Tryz.isAgg210
  z171 := Tryz.sizeOf210
  v171 := Tryz.zeroValue210
  t173 := Tryz.underlying212
  a173 := Tryz.isAgg212
  z173 := Tryz.sizeOf212
  v173 := Tryz.zeroValue212
  t175 := Tryz.underlying236
  a175 := Tryz.isAgg236
  z175 := Tryz.sizeOf236
  v175 := Tryz.zeroValue236
  t210 := Tryz.underlying239
  a210 := Tryz.isAgg239
  z210 := Tryz.sizeOf239
  v210 := Tryz.zeroValue239
  t212 := Tryz.underlying251
  a212 := Tryz.isAgg251
  z212 := Tryz.sizeOf251
  v212 := Tryz.zeroValue251
  t213 := Tryz.underlying252
  a213 := Tryz.isAgg252
  z213 := Tryz.sizeOf252
  t232 := Tryz.underlying286
  a232 := Tryz.isAgg286
  z232 := Tryz.sizeOf286
  v232 := Tryz.zeroValue286
  t233 := Tryz.underlying287
  a233 := Tryz.isAgg287
  z233 := Tryz.sizeOf287
  v233 := Tryz.zeroValue287
  g15 := by kernel_rfl
  g16 := by kernel_rfl
  g17 := by kernel_rfl
  g18 := by kernel_rfl
  g19 := by kernel_rfl }
open Go.RowKit in
/-- strconv.Atoi: "Atoi is equivalent to ParseInt(s, 10, 0), converted to type int.": AT A DECIMAL NUMERAL OF AT MOST 18 BYTES: its value, and a nil error. The world behind the call: the one new row that the library's '[]byte(s)' lays. (LAID: no walk: one application.) -/
theorem Kx.strconv_Atoi (s : ByteArray) (n : Int) (hl : s.size ≤ 18) (h : Lib.atoi s.data.toList = some n) (w : World) :
    Calls Tryz.prog 45 #[.string s] w fun e w' => e = .returned (.tuple #[.int .i64 n, .nilIface]) ∧ ∃ t, w' = Lib.bytesWorld w 5 t := Any.strconv_Atoi Kx.lays172 s n hl h w
def Kx.lays171_ren : Go.Shelf.Ren := ⟨fun | 171 => 32 | 243 => 69 | 246 => 115 | 283 => 153 | 284 => 154 | 285 => 155 | 286 => 156 | 129 => 213 | 317 => 212 | 318 => 214 | 319 => 215 | 320 => 216 | 337 => 246 | 338 => 247 | n => n, fun | 3 => 3 | 9 => 9 | 2 => 2 | 4 => 4 | 171 => 210 | 0 => 0 | 53 => 37 | 37 => 83 | 5 => 5 | 173 => 212 | 212 => 251 | 51 => 218 | 20 => 20 | 213 => 252 | 46 => 127 | 232 => 286 | 233 => 287 | n => n, fun | 17 => 3 | 18 => 6 | 19 => 7 | n => n⟩
theorem Kx.lays171 : Go.Proofs.Lays.n171 Tryz.prog Kx.lays171_ren := {
  mixed := by kernel_rfl
  f129 := Tryz.func213.trans (congrArg some (by kernel_rfl))
  f171 := Tryz.func32.trans (congrArg some (by kernel_rfl))
  f243 := Tryz.func69.trans (congrArg some (by kernel_rfl))
  f246 := Tryz.func115.trans (congrArg some (by kernel_rfl))
  f283 := Tryz.func153.trans (congrArg some (by kernel_rfl))
  f284 := Tryz.func154.trans (congrArg some (by kernel_rfl))
  f285 := Tryz.func155.trans (congrArg some (by kernel_rfl))
  f286 := Tryz.func156.trans (congrArg some (by kernel_rfl))
  f317 := Tryz.func212.trans (congrArg some (by kernel_rfl))
  f318 := Tryz.func214.trans (congrArg some (by kernel_rfl))
  f319 := Tryz.func215.trans (congrArg some (by kernel_rfl))
  f320 := Tryz.func216.trans (congrArg some (by kernel_rfl))
  f337 := Tryz.func246.trans (congrArg some (by kernel_rfl))
  f338 := Tryz.func247.trans (congrArg some (by kernel_rfl))
  t0 := Tryz.underlying0
  a0 := Tryz.isAgg0
  z0 := Tryz.sizeOf0
  v0 := Tryz.zeroValue0
  t2 := Tryz.underlying2
  a2 := Tryz.isAgg2
  z2 := Tryz.sizeOf2
  v2 := Tryz.zeroValue2
  t3 := Tryz.underlying3
  a3 := Tryz.isAgg3
  z3 := Tryz.sizeOf3
  v3 := Tryz.zeroValue3
  t4 := Tryz.underlying4
  a4 := Tryz.isAgg4
  z4 := Tryz.sizeOf4
  v4 := Tryz.zeroValue4
  t5 := Tryz.underlying5
  a5 := Tryz.isAgg5
  z5 := Tryz.sizeOf5
  v5 := Tryz.zeroValue5
  t9 := Tryz.underlying9
  a9 := Tryz.isAgg9
  z9 := Tryz.sizeOf9
  v9 := Tryz.zeroValue9
  t20 := Tryz.underlying20
  a20 := Tryz.isAgg20
  z20 := Tryz.sizeOf20
  v20 := Tryz.zeroValue20
  t37 := Tryz.underlying83
  a37 := Tryz.isAgg83
  z37 := Tryz.sizeOf83
  v37 := Tryz.zeroValue83
  t46 := Tryz.underlying127
  a46 := Tryz.isAgg127
  z46 := Tryz.sizeOf127
  v46 := Tryz.zeroValue127
  t51 := Tryz.underlying218
  a51 := Tryz.isAgg218
  z51 := Tryz.sizeOf218
  v51 := Tryz.zeroValue218
  t53 := Tryz.underlying37
  a53 := Tryz.isAgg37
  z53 := Tryz.sizeOf37
  v53 := Tryz.zeroValue37
  t171 := Tryz.underlying210
  a171 := Tryz.isAgg210
  z171 := Tryz.sizeOf210
  v171 := Tryz.zeroValue210
  t173 := Tryz.underlying212
  a173 := Tryz.isAgg212
  z173 := Tryz.sizeOf212
  v173 := Tryz.zeroValue212
  t212 := Tryz.underlying251
  a212 := Tryz.isAgg251
  z212 := Tryz.sizeOf251
  v212 := Tryz.zeroValue251
  t213 := Tryz.underlying252
  a213 := Tryz.isAgg252
  z213 := Tryz.sizeOf252
  t232 := Tryz.underlying286
  a232 := Tryz.isAgg286
  z232 := Tryz.sizeOf286
  v232 := Tryz.zeroValue286
  t233 := Tryz.underlying287
  a233 := Tryz.isAgg287
  z233 := Tryz.sizeOf287
  v233 := Tryz.zeroValue287
  g17 := by kernel_rfl
  g18 := by kernel_rfl
  g19 := by kernel_rfl }
open Go.RowKit Go.Sort Go.Lib in
/-- THE ROAD WITHOUT THE TABLE: 0 <= i < 100: NO PREMISE ON THE WORLD, AND THE WORLD IS AS IT WAS: a row that keeps its argument in that range need list no table ('laid = []'). (LAID: no walk: one application.) -/
theorem Kx.strconv_Itoa_small (i : Nat) (hi : i < 100) (w : World) :
    Calls Tryz.prog 32 #[.int .i64 i] w fun e w' => e = .returned (.string ⟨(Lib.decDigits i).toArray⟩) ∧ w' = w := Any.strconv_Itoa_small Kx.lays171 i hi w
def Kx.lays219_ren : Go.Shelf.Ren := ⟨fun | 219 => 162 | 217 => 218 | 225 => 219 | 224 => 220 | 267 => 221 | 266 => 248 | 314 => 249 | n => n, fun | 9 => 9 | 3 => 3 | 4 => 4 | 5 => 5 | 46 => 127 | 146 => 219 | 51 => 218 | n => n, fun | 1 => 0 | n => n⟩
theorem Kx.lays219 : Go.Proofs.Lays.n219 Tryz.prog Kx.lays219_ren := {
  mixed := by kernel_rfl
  f217 := Tryz.func218.trans (congrArg some (by kernel_rfl))
  f219 := Tryz.func162.trans (congrArg some (by kernel_rfl))
  f224 := Tryz.func220.trans (congrArg some (by kernel_rfl))
  f225 := Tryz.func219.trans (congrArg some (by kernel_rfl))
  f266 := Tryz.func248.trans (congrArg some (by kernel_rfl))
  f267 := Tryz.func221.trans (congrArg some (by kernel_rfl))
  f314 := Tryz.func249.trans (congrArg some (by kernel_rfl))
  t3 := Tryz.underlying3
  a3 := Tryz.isAgg3
  z3 := Tryz.sizeOf3
  v3 := Tryz.zeroValue3
  t4 := Tryz.underlying4
  a4 := Tryz.isAgg4
  z4 := Tryz.sizeOf4
  v4 := Tryz.zeroValue4
  t5 := Tryz.underlying5
  a5 := Tryz.isAgg5
  z5 := Tryz.sizeOf5
  v5 := Tryz.zeroValue5
  t9 := Tryz.underlying9
  a9 := Tryz.isAgg9
  z9 := Tryz.sizeOf9
  v9 := Tryz.zeroValue9
  t46 := Tryz.underlying127
  a46 := Tryz.isAgg127
  z46 := Tryz.sizeOf127
  v46 := Tryz.zeroValue127
  t51 := Tryz.underlying218
  a51 := Tryz.isAgg218
  z51 := Tryz.sizeOf218
  v51 := Tryz.zeroValue218
  t146 := Tryz.underlying219
  a146 := Tryz.isAgg219
  z146 := Tryz.sizeOf219
  v146 := Tryz.zeroValue219
  g1 := by kernel_rfl }
open Go.RowKit Go.Lib in
/-- internal/stringslite.Index (what strings.Index calls) AT A substr OF ONE BYTE c: IT RETURNS 'Lib.indexByte s c'; the world is as it was. (LAID: no walk: one application.) -/
theorem Kx.stringslite_Index_one (s : ByteArray) (c : UInt8) (w : World) :
    Calls Tryz.prog 162 #[.string s, .string ⟨#[c]⟩] w fun e w' => e = .returned (.int .i64 (Lib.indexByte s.data.toList c)) ∧ w' = w := Any.stringslite_Index_one Kx.lays219 s c w
def Kx.lays143_ren : Go.Shelf.Ren := ⟨fun | 143 => 128 | 219 => 162 | 217 => 218 | 225 => 219 | 224 => 220 | 267 => 221 | 266 => 248 | 314 => 249 | n => n, fun | 9 => 9 | 3 => 3 | 4 => 4 | 5 => 5 | 46 => 127 | 146 => 219 | 51 => 218 | n => n, fun | 1 => 0 | n => n⟩
theorem Kx.lays143 : Go.Proofs.Lays.n143 Tryz.prog Kx.lays143_ren := {
  mixed := by kernel_rfl
  f143 := Tryz.func128.trans (congrArg some (by kernel_rfl))
  f217 := Tryz.func218.trans (congrArg some (by kernel_rfl))
  f219 := Tryz.func162.trans (congrArg some (by kernel_rfl))
  f224 := Tryz.func220.trans (congrArg some (by kernel_rfl))
  f225 := Tryz.func219.trans (congrArg some (by kernel_rfl))
  f266 := Tryz.func248.trans (congrArg some (by kernel_rfl))
  f267 := Tryz.func221.trans (congrArg some (by kernel_rfl))
  f314 := Tryz.func249.trans (congrArg some (by kernel_rfl))
  t3 := Tryz.underlying3
  a3 := Tryz.isAgg3
  z3 := Tryz.sizeOf3
  v3 := Tryz.zeroValue3
  t4 := Tryz.underlying4
  a4 := Tryz.isAgg4
  z4 := Tryz.sizeOf4
  v4 := Tryz.zeroValue4
  t5 := Tryz.underlying5
  a5 := Tryz.isAgg5
  z5 := Tryz.sizeOf5
  v5 := Tryz.zeroValue5
  t9 := Tryz.underlying9
  a9 := Tryz.isAgg9
  z9 := Tryz.sizeOf9
  v9 := Tryz.zeroValue9
  t46 := Tryz.underlying127
  a46 := Tryz.isAgg127
  z46 := Tryz.sizeOf127
  v46 := Tryz.zeroValue127
  t51 := Tryz.underlying218
  a51 := Tryz.isAgg218
  z51 := Tryz.sizeOf218
  v51 := Tryz.zeroValue218
  t146 := Tryz.underlying219
  a146 := Tryz.isAgg219
  z146 := Tryz.sizeOf219
  v146 := Tryz.zeroValue219
  g1 := by kernel_rfl }
open Go.RowKit Go.Lib in
/-- strings.Index: "Index returns the index of the first instance of substr in s, or -1 if substr is not present in s.": AT A substr OF ONE BYTE c: IT RETURNS 'Lib.indexByte s c'; the world is as it was. (LAID: no walk: one application.) -/
theorem Kx.strings_Index_one (s : ByteArray) (c : UInt8) (w : World) :
    Calls Tryz.prog 128 #[.string s, .string ⟨#[c]⟩] w fun e w' => e = .returned (.int .i64 (Lib.indexByte s.data.toList c)) ∧ w' = w := Any.strings_Index_one Kx.lays143 s c w
def Kx.lays138_ren : Go.Shelf.Ren := ⟨fun | 138 => 127 | 195 => 173 | 218 => 175 | 143 => 128 | 219 => 162 | 217 => 218 | 225 => 219 | 224 => 220 | 267 => 221 | 266 => 248 | 314 => 249 | n => n, fun | 9 => 9 | 3 => 3 | 4 => 4 | 5 => 5 | 0 => 0 | 46 => 127 | 146 => 219 | 51 => 218 | n => n, fun | 1 => 0 | n => n⟩
theorem Kx.lays138 : Go.Proofs.Lays.n138 Tryz.prog Kx.lays138_ren := {
  mixed := by kernel_rfl
  f138 := Tryz.func127.trans (congrArg some (by kernel_rfl))
  f143 := Tryz.func128.trans (congrArg some (by kernel_rfl))
  f195 := Tryz.func173.trans (congrArg some (by kernel_rfl))
  f217 := Tryz.func218.trans (congrArg some (by kernel_rfl))
  f218 := Tryz.func175.trans (congrArg some (by kernel_rfl))
  f219 := Tryz.func162.trans (congrArg some (by kernel_rfl))
  f224 := Tryz.func220.trans (congrArg some (by kernel_rfl))
  f225 := Tryz.func219.trans (congrArg some (by kernel_rfl))
  f266 := Tryz.func248.trans (congrArg some (by kernel_rfl))
  f267 := Tryz.func221.trans (congrArg some (by kernel_rfl))
  f314 := Tryz.func249.trans (congrArg some (by kernel_rfl))
  t0 := Tryz.underlying0
  a0 := Tryz.isAgg0
  z0 := Tryz.sizeOf0
  v0 := Tryz.zeroValue0
  t3 := Tryz.underlying3
  a3 := Tryz.isAgg3
  z3 := Tryz.sizeOf3
  v3 := Tryz.zeroValue3
  t4 := Tryz.underlying4
  a4 := Tryz.isAgg4
  z4 := Tryz.sizeOf4
  v4 := Tryz.zeroValue4
  t5 := Tryz.underlying5
  a5 := Tryz.isAgg5
  z5 := Tryz.sizeOf5
  v5 := Tryz.zeroValue5
  t9 := Tryz.underlying9
  a9 := Tryz.isAgg9
  z9 := Tryz.sizeOf9
  v9 := Tryz.zeroValue9
  t46 := Tryz.underlying127
  a46 := Tryz.isAgg127
  z46 := Tryz.sizeOf127
  v46 := Tryz.zeroValue127
  t51 := Tryz.underlying218
  a51 := Tryz.isAgg218
  z51 := Tryz.sizeOf218
  v51 := Tryz.zeroValue218
  t146 := Tryz.underlying219
  a146 := Tryz.isAgg219
  z146 := Tryz.sizeOf219
  v146 := Tryz.zeroValue219
  g1 := by kernel_rfl }
open Go.RowKit Go.Lib in
/-- strings.Count AT A substr OF ONE BYTE ('hp'): "Count counts the number of non-overlapping instances of substr in s.": IT RETURNS 'Lib.countByte s (that byte)'; the world is as it was. ✋ NO CONTRACT HERE YET at an empty substr (utf8.RuneCountInString) or at a longer one (a loop over strings.Index). (LAID: no walk: one application.) -/
theorem Kx.strings_Count_one (s : ByteArray) (c : UInt8) (w : World) :
    Calls Tryz.prog 127 #[.string s, .string ⟨#[c]⟩] w fun e w' => e = .returned (.int .i64 (Lib.countByte s.data.toList c)) ∧ w' = w := Any.strings_Count_one Kx.lays138 s c w
def Kx.lays190_ren : Go.Shelf.Ren := ⟨fun | 190 => 270 | 125 => 275 | 258 => 274 | 128 => 286 | 129 => 213 | 302 => 277 | 303 => 278 | 304 => 279 | 305 => 280 | 306 => 281 | 307 => 282 | 308 => 283 | 309 => 284 | 310 => 285 | 333 => 287 | 329 => 288 | 330 => 289 | 334 => 290 | 335 => 291 | 336 => 292 | 344 => 293 | n => n, fun | 31 => 28 | 9 => 9 | 3 => 3 | 46 => 127 | 0 => 0 | 51 => 218 | 53 => 37 | 4 => 4 | 183 => 297 | 182 => 296 | 131 => 179 | 5 => 5 | 218 => 302 | 222 => 305 | 228 => 307 | 229 => 308 | n => n, fun | n => n⟩
theorem Kx.lays190 : Go.Proofs.Lays.n190 Tryz.prog Kx.lays190_ren := {
  mixed := by kernel_rfl
  f125 := Tryz.func275.trans (congrArg some (by kernel_rfl))
  f128 := Tryz.func286.trans (congrArg some (by kernel_rfl))
  f129 := Tryz.func213.trans (congrArg some (by kernel_rfl))
  f190 := Tryz.func270.trans (congrArg some (by kernel_rfl))
  f258 := Tryz.func274.trans (congrArg some (by kernel_rfl))
  f302 := Tryz.func277.trans (congrArg some (by kernel_rfl))
  f303 := Tryz.func278.trans (congrArg some (by kernel_rfl))
  f304 := Tryz.func279.trans (congrArg some (by kernel_rfl))
  f305 := Tryz.func280.trans (congrArg some (by kernel_rfl))
  f306 := Tryz.func281.trans (congrArg some (by kernel_rfl))
  f307 := Tryz.func282.trans (congrArg some (by kernel_rfl))
  f308 := Tryz.func283.trans (congrArg some (by kernel_rfl))
  f309 := Tryz.func284.trans (congrArg some (by kernel_rfl))
  f310 := Tryz.func285.trans (congrArg some (by kernel_rfl))
  f329 := Tryz.func288.trans (congrArg some (by kernel_rfl))
  f330 := Tryz.func289.trans (congrArg some (by kernel_rfl))
  f333 := Tryz.func287.trans (congrArg some (by kernel_rfl))
  f334 := Tryz.func290.trans (congrArg some (by kernel_rfl))
  f335 := Tryz.func291.trans (congrArg some (by kernel_rfl))
  f336 := Tryz.func292.trans (congrArg some (by kernel_rfl))
  f344 := Tryz.func293.trans (congrArg some (by kernel_rfl))
  t0 := Tryz.underlying0
  a0 := Tryz.isAgg0
  z0 := Tryz.sizeOf0
  v0 := Tryz.zeroValue0
  t3 := Tryz.underlying3
  a3 := Tryz.isAgg3
  z3 := Tryz.sizeOf3
  v3 := Tryz.zeroValue3
  t4 := Tryz.underlying4
  a4 := Tryz.isAgg4
  z4 := Tryz.sizeOf4
  v4 := Tryz.zeroValue4
  t5 := Tryz.underlying5
  a5 := Tryz.isAgg5
  z5 := Tryz.sizeOf5
  v5 := Tryz.zeroValue5
  t9 := Tryz.underlying9
  a9 := Tryz.isAgg9
  z9 := Tryz.sizeOf9
  v9 := Tryz.zeroValue9
  t31 := Tryz.underlying28
  a31 := Tryz.isAgg28
  z31 := Tryz.sizeOf28
  v31 := Tryz.zeroValue28
  t46 := Tryz.underlying127
  a46 := Tryz.isAgg127
  z46 := Tryz.sizeOf127
  v46 := Tryz.zeroValue127
  t51 := Tryz.underlying218
  a51 := Tryz.isAgg218
  z51 := Tryz.sizeOf218
  v51 := Tryz.zeroValue218
  t53 := Tryz.underlying37
  a53 := Tryz.isAgg37
  z53 := Tryz.sizeOf37
  v53 := Tryz.zeroValue37
  t131 := Tryz.underlying179
  a131 := Tryz.isAgg179
  z131 := Tryz.sizeOf179
  v131 := Tryz.zeroValue179
  t182 := Tryz.underlying296
  a182 := Tryz.isAgg296
  z182 := Tryz.sizeOf296
  v182 := Tryz.zeroValue296
  t183 := Tryz.underlying297
  a183 := Tryz.isAgg297
  z183 := Tryz.sizeOf297
  v183 := Tryz.zeroValue297
  t218 := Tryz.underlying302
  a218 := Tryz.isAgg302
  z218 := Tryz.sizeOf302
  v218 := Tryz.zeroValue302
  t222 := Tryz.underlying305
  a222 := Tryz.isAgg305
  z222 := Tryz.sizeOf305
  v222 := Tryz.zeroValue305
  t228 := Tryz.underlying307
  a228 := Tryz.isAgg307
  z228 := Tryz.sizeOf307
  v228 := Tryz.zeroValue307
  t229 := Tryz.underlying308
  a229 := Tryz.isAgg308
  z229 := Tryz.sizeOf308
  v229 := Tryz.zeroValue308 }
open Go.Sort Go.RowKit in
theorem Kx.slices_Sort_string (blk off cap : Nat) (ss : List (List UInt8)) (w : World) (hH : Holds encStr w blk off ss.toArray) (hblk : blk < w.heap.size) (hsz : ss.length < 4611686018427387904) :
    Calls Tryz.prog 270 #[.slice (some ⟨blk, off, none⟩) ss.length cap] w fun e w' =>
      e = .returned (.tuple #[]) ∧ ∃ n os, w' = grow (putRow encStr (Sort.ahead w n) blk off (ss.mergeSort fun x y => decide (x ≤ y)).toArray) os := Any.slices_Sort_string Kx.lays190 blk off cap ss w hH hblk hsz
def Kx.lays149_ren : Go.Shelf.Ren := ⟨fun | 149 => 73 | 222 => 117 | n => n, fun | 9 => 9 | 5 => 5 | 3 => 3 | 4 => 4 | n => n, fun | n => n⟩
theorem Kx.lays149 : Go.Proofs.Lays.n149 Tryz.prog Kx.lays149_ren := {
  mixed := by kernel_rfl
  f149 := Tryz.func73.trans (congrArg some (by kernel_rfl))
  f222 := Tryz.func117.trans (congrArg some (by kernel_rfl))
  t3 := Tryz.underlying3
  a3 := Tryz.isAgg3
  z3 := Tryz.sizeOf3
  v3 := Tryz.zeroValue3
  t4 := Tryz.underlying4
  a4 := Tryz.isAgg4
  z4 := Tryz.sizeOf4
  v4 := Tryz.zeroValue4
  t5 := Tryz.underlying5
  a5 := Tryz.isAgg5
  z5 := Tryz.sizeOf5
  v5 := Tryz.zeroValue5
  t9 := Tryz.underlying9
  a9 := Tryz.isAgg9
  z9 := Tryz.sizeOf9
  v9 := Tryz.zeroValue9 }
open Go.RowKit Go.Lib in
/-- strings.LastIndexByte: "LastIndexByte returns the index of the last instance of c in s, or -1 if c is not present in s." (LAID: no walk: one application.) -/
theorem Kx.strings_LastIndexByte (s : ByteArray) (c : Int) (hs : s.size < 4611686018427387904) (w : World) :
    Calls Tryz.prog 73 #[.string s, .int .u8 c] w fun e w' => e = .returned (.int .i64 (Lib.lastIndexByte s c)) ∧ w' = w := Any.strings_LastIndexByte Kx.lays149 s c hs w
def Kx.lays99_ren : Go.Shelf.Ren := ⟨fun | 99 => 35 | 206 => 72 | n => n, fun | 9 => 9 | 4 => 4 | 3 => 3 | n => n, fun | n => n⟩
theorem Kx.lays99 : Go.Proofs.Lays.n99 Tryz.prog Kx.lays99_ren := {
  mixed := by kernel_rfl
  f99 := Tryz.func35.trans (congrArg some (by kernel_rfl))
  f206 := Tryz.func72.trans (congrArg some (by kernel_rfl))
  t3 := Tryz.underlying3
  a3 := Tryz.isAgg3
  z3 := Tryz.sizeOf3
  v3 := Tryz.zeroValue3
  t4 := Tryz.underlying4
  a4 := Tryz.isAgg4
  z4 := Tryz.sizeOf4
  v4 := Tryz.zeroValue4
  t9 := Tryz.underlying9
  a9 := Tryz.isAgg9
  z9 := Tryz.sizeOf9
  v9 := Tryz.zeroValue9 }
open Go.RowKit Go.Lib in
/-- strings.HasPrefix: "HasPrefix reports whether the string s begins with prefix.": IT RETURNS 'Lib.hasPrefix s prefix'; the world is as it was. (LAID: no walk: one application.) -/
theorem Kx.strings_HasPrefix (s p : ByteArray) (w : World) :
    Calls Tryz.prog 35 #[.string s, .string p] w fun e w' => e = .returned (.bool (Lib.hasPrefix s.data.toList p.data.toList)) ∧ w' = w := Any.strings_HasPrefix Kx.lays99 s p w
def Kx.lays105_ren : Go.Shelf.Ren := ⟨fun | 105 => 68 | 212 => 113 | 99 => 35 | 165 => 84 | 166 => 29 | 170 => 114 | 169 => 33 | 263 => 160 | 264 => 161 | 206 => 72 | 240 => 65 | 241 => 125 | 276 => 110 | 277 => 172 | n => n, fun | 9 => 9 | 3 => 3 | 4 => 4 | 20 => 20 | 0 => 0 | 46 => 127 | 109 => 174 | 5 => 5 | 72 => 85 | 76 => 88 | 51 => 218 | 146 => 219 | 53 => 37 | 148 => 221 | 70 => 82 | 37 => 83 | 75 => 87 | 127 => 131 | 164 => 171 | 80 => 93 | n => n, fun | n => n⟩
theorem Kx.lays105 : Go.Proofs.Lays.n105 Tryz.prog Kx.lays105_ren := {
  mixed := by kernel_rfl
  f99 := Tryz.func35.trans (congrArg some (by kernel_rfl))
  f105 := Tryz.func68.trans (congrArg some (by kernel_rfl))
  f165 := Tryz.func84.trans (congrArg some (by kernel_rfl))
  f166 := Tryz.func29.trans (congrArg some (by kernel_rfl))
  f169 := Tryz.func33.trans (congrArg some (by kernel_rfl))
  f170 := Tryz.func114.trans (congrArg some (by kernel_rfl))
  f206 := Tryz.func72.trans (congrArg some (by kernel_rfl))
  f212 := Tryz.func113.trans (congrArg some (by kernel_rfl))
  f240 := Tryz.func65.trans (congrArg some (by kernel_rfl))
  f241 := Tryz.func125.trans (congrArg some (by kernel_rfl))
  f263 := Tryz.func160.trans (congrArg some (by kernel_rfl))
  f264 := Tryz.func161.trans (congrArg some (by kernel_rfl))
  f276 := Tryz.func110.trans (congrArg some (by kernel_rfl))
  f277 := Tryz.func172.trans (congrArg some (by kernel_rfl))
  t0 := Tryz.underlying0
  a0 := Tryz.isAgg0
  z0 := Tryz.sizeOf0
  v0 := Tryz.zeroValue0
  t3 := Tryz.underlying3
  a3 := Tryz.isAgg3
  z3 := Tryz.sizeOf3
  v3 := Tryz.zeroValue3
  t4 := Tryz.underlying4
  a4 := Tryz.isAgg4
  z4 := Tryz.sizeOf4
  v4 := Tryz.zeroValue4
  t5 := Tryz.underlying5
  a5 := Tryz.isAgg5
  z5 := Tryz.sizeOf5
  v5 := Tryz.zeroValue5
  t9 := Tryz.underlying9
  a9 := Tryz.isAgg9
  z9 := Tryz.sizeOf9
  v9 := Tryz.zeroValue9
  t20 := Tryz.underlying20
  a20 := Tryz.isAgg20
  z20 := Tryz.sizeOf20
  v20 := Tryz.zeroValue20
  t37 := Tryz.underlying83
  a37 := Tryz.isAgg83
  z37 := Tryz.sizeOf83
  v37 := Tryz.zeroValue83
  t46 := Tryz.underlying127
  a46 := Tryz.isAgg127
  z46 := Tryz.sizeOf127
  v46 := Tryz.zeroValue127
  t51 := Tryz.underlying218
  a51 := Tryz.isAgg218
  z51 := Tryz.sizeOf218
  v51 := Tryz.zeroValue218
  t53 := Tryz.underlying37
  a53 := Tryz.isAgg37
  z53 := Tryz.sizeOf37
  v53 := Tryz.zeroValue37
  t70 := Tryz.underlying82
  a70 := Tryz.isAgg82
  z70 := Tryz.sizeOf82
  v70 := Tryz.zeroValue82
  t72 := Tryz.underlying85
  a72 := Tryz.isAgg85
  z72 := Tryz.sizeOf85
  v72 := Tryz.zeroValue85
  t75 := Tryz.underlying87
  a75 := Tryz.isAgg87
  z75 := Tryz.sizeOf87
  v75 := Tryz.zeroValue87
  t76 := Tryz.underlying88
  a76 := Tryz.isAgg88
  z76 := Tryz.sizeOf88
  v76 := Tryz.zeroValue88
  t109 := Tryz.underlying174
  a109 := Tryz.isAgg174
  z109 := Tryz.sizeOf174
  v109 := Tryz.zeroValue174
  t127 := Tryz.underlying131
  a127 := Tryz.isAgg131
  z127 := Tryz.sizeOf131
  v127 := Tryz.zeroValue131
  t146 := Tryz.underlying219
  a146 := Tryz.isAgg219
  z146 := Tryz.sizeOf219
  v146 := Tryz.zeroValue219
  t148 := Tryz.underlying221
  a148 := Tryz.isAgg221
  z148 := Tryz.sizeOf221
  v148 := Tryz.zeroValue221
  t164 := Tryz.underlying171
  a164 := Tryz.isAgg171
  z164 := Tryz.sizeOf171
  v164 := Tryz.zeroValue171 }
theorem Kx.Builder_Extra_105 : Builder.Extra Tryz.prog Kx.lays105_ren := {
  sizeBuilder := by kernel_rfl
  liesBuilder := by kernel_rfl
  t5 := Tryz.underlying5
  a5 := Tryz.isAgg5
  z5 := Tryz.sizeOf5
  v5 := Tryz.zeroValue5
  infoByte := by kernel_rfl
  cellsByte := by kernel_rfl
  sizeByte := by kernel_rfl
  neB5 := by decide }
open Go.RowKit Go.Lib in
/-- **strings.Repeat: count ≥ 0, the result within one allocation: count copies of s.** (LAID: no walk: one application.) -/
theorem Kx.strings_Repeat (s : ByteArray) (c : Nat) (w : World) (hc : c ≤ 9223372036854775807) (hlen : s.size * c ≤ 140737488355328) :
    Calls Tryz.prog 68 #[.string s, .int .i64 c] w fun e w' => e = .returned (.string ⟨(Lib.repeatL s.data.toList c).toArray⟩) ∧ Below w.heap.size w w' := Any.strings_Repeat Kx.lays105 Kx.Builder_Extra_105 s c w hc hlen
def Kx.lays229_ren : Go.Shelf.Ren := ⟨fun | 229 => 257 | n => n, fun | 9 => 9 | 40 => 276 | 31 => 28 | 152 => 288 | 3 => 3 | 0 => 0 | 4 => 4 | 21 => 21 | 154 => 290 | n => n, fun | n => n⟩
theorem Kx.lays229 : Go.Proofs.Lays.n229 Tryz.prog Kx.lays229_ren := {
  mixed := by kernel_rfl
  f229 := Tryz.func257.trans (congrArg some (by kernel_rfl))
  t0 := Tryz.underlying0
  a0 := Tryz.isAgg0
  z0 := Tryz.sizeOf0
  v0 := Tryz.zeroValue0
  t3 := Tryz.underlying3
  a3 := Tryz.isAgg3
  z3 := Tryz.sizeOf3
  v3 := Tryz.zeroValue3
  t4 := Tryz.underlying4
  a4 := Tryz.isAgg4
  z4 := Tryz.sizeOf4
  v4 := Tryz.zeroValue4
  t9 := Tryz.underlying9
  a9 := Tryz.isAgg9
  z9 := Tryz.sizeOf9
  v9 := Tryz.zeroValue9
  t21 := Tryz.underlying21
  a21 := Tryz.isAgg21
  z21 := Tryz.sizeOf21
  v21 := Tryz.zeroValue21
  t31 := Tryz.underlying28
  a31 := Tryz.isAgg28
  z31 := Tryz.sizeOf28
  v31 := Tryz.zeroValue28
  t40 := Tryz.underlying276
  a40 := Tryz.isAgg276
  z40 := Tryz.sizeOf276
  v40 := Tryz.zeroValue276
  t152 := Tryz.underlying288
  a152 := Tryz.isAgg288
  z152 := Tryz.sizeOf288
  v152 := Tryz.zeroValue288
  t154 := Tryz.underlying290
  a154 := Tryz.isAgg290
  z154 := Tryz.sizeOf290
  v154 := Tryz.zeroValue290 }
open Go.RowKit Go.Lib in
theorem Kx.strings_FieldsFunc_grows (g : Nat) (lb : Array Value) (eg : ∀ args w, (callFunc g args).run Tryz.prog w = .ok (.enter g args) w) (p : Nat → Bool) (s : ByteArray) (w : World) (hs : s.size ≤ 4294967296) (hp : PredGrows Tryz.prog g lb p w) :
    Calls Tryz.prog 257 #[.string s, .func (.func g) #[] lb] w fun e w' => ∃ A, e = .returned (.slice (some ⟨A, 0, none⟩) (Lib.goFieldsP p s).length (Lib.goFieldsP p s).length) ∧ w.heap.size ≤ A ∧
      w'.ownsRow w.heap.size 9 1 (.slice (some ⟨A, 0, none⟩) (Lib.goFieldsP p s).length (Lib.goFieldsP p s).length) (Lib.goFieldsP p s).length ((Lib.goFieldsP p s).map Value.string) ∧ Below w.heap.size w w' := Any.strings_FieldsFunc_grows Kx.lays229 g lb eg p s w hs hp (by kernel_rfl) (by kernel_rfl)
open Go.RowKit Go.Sort in
/-- .. and plain. (LAID: no walk: one application.) -/
theorem Kx.slices_Sort_string_none (p : Option Addr) (cap : Nat) (w : World) :
    Calls Tryz.prog 270 #[.slice p 0 cap] w fun e w' => e = .returned (.tuple #[]) ∧ w' = w := Any.slices_Sort_string_none Kx.lays190 p cap w

end Go.Proofs
/-
  More of the kit's contracts of Go's library, laid at this program.
-/
namespace Go.Proofs
open Go.Shelf
def Kx.keysA_ren : Go.Shelf.Ren := ⟨fun | 7 => 260 | 10 => 271 | n => n, fun | 23 => 282 | 26 => 9 | 3 => 283 | 28 => 279 | 0 => 0 | 27 => 278 | 33 => 123 | 4 => 4 | n => n, fun | n => n⟩
theorem Kx.keysA : Go.Proofs.SlLaysZ.n7 Tryz.prog Kx.keysA_ren := {
  mixed := by kernel_rfl
  f7 := ⟨Tryz.f260.name, by decide, Tryz.func260.trans (congrArg some (by kernel_rfl))⟩
  f10 := ⟨Tryz.f271.name, by decide, Tryz.func271.trans (congrArg some (by kernel_rfl))⟩
  t0 := Tryz.underlying0
  a0 := Tryz.isAgg0
  z0 := Tryz.sizeOf0
  v0 := Tryz.zeroValue0
  t4 := Tryz.underlying4
  a4 := Tryz.isAgg4
  z4 := Tryz.sizeOf4
  v4 := Tryz.zeroValue4
  t23 := Tryz.underlying282
  a23 := Tryz.isAgg282
  z23 := Tryz.sizeOf282
  v23 := Tryz.zeroValue282
  t26 := Tryz.underlying9
  a26 := Tryz.isAgg9
  z26 := Tryz.sizeOf9
  v26 := Tryz.zeroValue9
  t27 := Tryz.underlying278
  a27 := Tryz.isAgg278
  z27 := Tryz.sizeOf278
  v27 := Tryz.zeroValue278
  t28 := Tryz.underlying279
  a28 := Tryz.isAgg279
  z28 := Tryz.sizeOf279
  v28 := Tryz.zeroValue279
  t33 := Tryz.underlying123
  a33 := Tryz.isAgg123
  z33 := Tryz.sizeOf123
  v33 := Tryz.zeroValue123 }
def Kx.sortedA_ren : Go.Shelf.Ren := ⟨fun | 6 => 259 | 8 => 269 | 9 => 270 | 11 => 273 | 13 => 275 | 12 => 274 | 23 => 286 | 24 => 213 | 14 => 277 | 15 => 278 | 16 => 279 | 17 => 280 | 18 => 281 | 19 => 282 | 20 => 283 | 21 => 284 | 22 => 285 | 25 => 287 | 26 => 288 | 27 => 289 | 28 => 290 | 29 => 291 | 30 => 292 | 31 => 293 | n => n, fun | 26 => 9 | 28 => 279 | 24 => 28 | 0 => 0 | 3 => 3 | 37 => 127 | 48 => 218 | 50 => 37 | 4 => 4 | 40 => 297 | 39 => 296 | 45 => 179 | 5 => 5 | 9 => 9 | 51 => 302 | 55 => 305 | 57 => 307 | 58 => 308 | 33 => 123 | n => n, fun | n => n⟩
theorem Kx.sortedA : Go.Proofs.SlLaysZ.n6 Tryz.prog Kx.sortedA_ren := {
  mixed := by kernel_rfl
  f6 := ⟨Tryz.f259.name, by decide, Tryz.func259.trans (congrArg some (by kernel_rfl))⟩
  f8 := ⟨Tryz.f269.name, by decide, Tryz.func269.trans (congrArg some (by kernel_rfl))⟩
  f11 := ⟨Tryz.f273.name, by decide, Tryz.func273.trans (congrArg some (by kernel_rfl))⟩
  t0 := Tryz.underlying0
  a0 := Tryz.isAgg0
  z0 := Tryz.sizeOf0
  v0 := Tryz.zeroValue0
  t24 := Tryz.underlying28
  a24 := Tryz.isAgg28
  z24 := Tryz.sizeOf28
  v24 := Tryz.zeroValue28
  t26 := Tryz.underlying9
  a26 := Tryz.isAgg9
  z26 := Tryz.sizeOf9
  v26 := Tryz.zeroValue9
  t28 := Tryz.underlying279
  a28 := Tryz.isAgg279
  z28 := Tryz.sizeOf279
  v28 := Tryz.zeroValue279
  i26 := by kernel_rfl }
def Kx.laysTz_ren : Go.Shelf.Ren := ⟨fun | 27 => 216 | 28 => 246 | 29 => 247 | n => n, fun | 25 => 127 | 3 => 3 | 27 => 218 | 22 => 37 | 4 => 4 | 53 => 286 | 0 => 0 | 5 => 5 | 54 => 287 | n => n, fun | 0 => 6 | 1 => 7 | n => n⟩
theorem Kx.laysTz : Go.Proofs.Lays7.n27 Tryz.prog Kx.laysTz_ren := {
  mixed := by kernel_rfl
  f27 := Tryz.func216.trans (congrArg some (by kernel_rfl))
  f28 := Tryz.func246.trans (congrArg some (by kernel_rfl))
  f29 := Tryz.func247.trans (congrArg some (by kernel_rfl))
  t0 := Tryz.underlying0
  a0 := Tryz.isAgg0
  z0 := Tryz.sizeOf0
  v0 := Tryz.zeroValue0
  i0 := by kernel_rfl
  t3 := Tryz.underlying3
  a3 := Tryz.isAgg3
  z3 := Tryz.sizeOf3
  v3 := Tryz.zeroValue3
  i3 := by kernel_rfl
  t4 := Tryz.underlying4
  a4 := Tryz.isAgg4
  z4 := Tryz.sizeOf4
  v4 := Tryz.zeroValue4
  i4 := by kernel_rfl
  t5 := Tryz.underlying5
  a5 := Tryz.isAgg5
  z5 := Tryz.sizeOf5
  v5 := Tryz.zeroValue5
  i5 := by kernel_rfl
  t22 := Tryz.underlying37
  a22 := Tryz.isAgg37
  z22 := Tryz.sizeOf37
  v22 := Tryz.zeroValue37
  i22 := by kernel_rfl
  t25 := Tryz.underlying127
  a25 := Tryz.isAgg127
  z25 := Tryz.sizeOf127
  v25 := Tryz.zeroValue127
  i25 := by kernel_rfl
  t27 := Tryz.underlying218
  a27 := Tryz.isAgg218
  z27 := Tryz.sizeOf218
  v27 := Tryz.zeroValue218
  i27 := by kernel_rfl
  t53 := Tryz.underlying286
  a53 := Tryz.isAgg286
  z53 := Tryz.sizeOf286
  v53 := Tryz.zeroValue286
  i53 := by kernel_rfl
  t54 := Tryz.underlying287
  a54 := Tryz.isAgg287
  z54 := Tryz.sizeOf287
  g0 := by kernel_rfl
  g1 := by kernel_rfl }
end Go.Proofs
