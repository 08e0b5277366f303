/- The contracts of the library at this seat, laid by the kit and cut to what is used. -/
import Derived.Shelf.Strings.Builder1
import Derived.Shelf.Strings.Builder2
import Derived.Shelf.Strings.OnBuilder
import Derived.Shelf.Small.Utf8
import Derived.Shelf.Small.Strs
import Derived.Shelf.Small.Wraps
import Derived.Shelf.Strings.BuilderF
import Derived.Shelf.Strings.BuilderK
import Derived.Shelf.Strings.Builder2Cap
import Derived.Shelf.Strconv.Atoi
import Derived.Shelf.Strconv.Itoa0
import Derived.Shelf.Strconv.Itoa1
import Derived.Shelf.LaysM
import Derived.Shelf.Strconv.Itoa2
import Derived.Shelf.Strconv.Itoa3
import Derived.Shelf.Strconv.AtoiErrFast
import Derived.Shelf.Strconv.ParseIntEmpty
import Derived.Shelf.Strconv.AtoiFail
import Derived.Shelf.Strconv.Clone
import Derived.Shelf.Strconv.SyntaxError
import Derived.Shelf.LaysC
import Derived.Shelf.Strconv.ToError
import Derived.Shelf.Strconv.AtoiErr
import Derived.Shelf.Strconv.ErrVar
import Derived.Shelf.Strconv.Lower
import Derived.Shelf.Strconv.ParseUint10
import Derived.Shelf.Strconv.ParseUint10Empty
import Derived.Shelf.Strconv.ParseUint10Any
import Derived.Shelf.Strconv.ParseInt10
import Derived.Shelf.Strconv.AtoiLong
import Derived.Shelf.Strconv.AtoiInnerAll
import Derived.Shelf.Strconv.RangeError
import Derived.Shelf.Strconv.ToErrorRange
import Derived.Shelf.Strconv.AtoiAll
import Derived.Shelf.Strconv.ErrVarAll
import Derived.Shelf.Strings.Search1
import Derived.Shelf.Strings.Search2
import Derived.Shelf.Strings.Search3
import Derived.Shelf.Strings.Cut
import Derived.Shelf.Strings.Count
import Derived.Shelf.Strings.Shaped
import Derived.Shelf.GgClosure.StringsIndexFunc
import Derived.Ground.GgwProg
import Derived.Shelf.GgClosure.StringsIndexFuncTop
import Derived.Shelf.GgClosure.StringsRunes
import Derived.Shelf.Strings.Prefix
import Derived.Shelf.Strings.Split
import Derived.Shelf.Strings.SplitShaped
import Derived.Shelf.Unicode.Decode
import Derived.Shelf.Strings.Runes
import Derived.Shelf.Strings.RuneCount
import Derived.Shelf.Strings.Explode
import Derived.Shelf.Unicode.DecodeSlow
import Derived.Shelf.Unicode.DecodeAny
import Derived.Shelf.Strings.FuncGrows
import Derived.Shelf.Strings.BuilderCap
import Derived.Shelf.Slices.Turned
import Derived.Ground.Names2Prog
import Derived.Shelf.Slices.SearchI
import Derived.Test.YtljjbdbgedmadaaGreatDoorProg
namespace Go.Proofs
open Go.Shelf
def Tryz.laysM171_ren : Go.Shelf.Ren := ⟨fun | 171 => 98 | 243 => 158 | 246 => 184 | 283 => 204 | 284 => 205 | 285 => 206 | 286 => 207 | 129 => 156 | 317 => 232 | 318 => 233 | 319 => 234 | 320 => 235 | 337 => 250 | 338 => 251 | n => n, fun | 3 => 3 | 9 => 9 | 2 => 2 | 4 => 4 | 171 => 309 | 0 => 0 | 53 => 275 | 37 => 100 | 5 => 5 | 173 => 311 | 212 => 333 | 51 => 273 | 20 => 20 | 213 => 334 | 46 => 186 | 232 => 349 | 233 => 350 | n => n, fun | 17 => 1 | 18 => 2 | 19 => 3 | n => n⟩
theorem Tryz.laysM171 : Go.Proofs.LaysM.n171 Tryz.prog Tryz.laysM171_ren := {
 mixed := by kernel_rfl
 f129 := Tryz.func156.trans (congrArg some (by kernel_rfl))
 f171 := Tryz.func98.trans (congrArg some (by kernel_rfl))
 f243 := Tryz.func158.trans (congrArg some (by kernel_rfl))
 f246 := Tryz.func184.trans (congrArg some (by kernel_rfl))
 f283 := Tryz.func204.trans (congrArg some (by kernel_rfl))
 f284 := Tryz.func205.trans (congrArg some (by kernel_rfl))
 f285 := Tryz.func206.trans (congrArg some (by kernel_rfl))
 f286 := Tryz.func207.trans (congrArg some (by kernel_rfl))
 f317 := Tryz.func232.trans (congrArg some (by kernel_rfl))
 f318 := Tryz.func233.trans (congrArg some (by kernel_rfl))
 f319 := Tryz.func234.trans (congrArg some (by kernel_rfl))
 f320 := Tryz.func235.trans (congrArg some (by kernel_rfl))
 f337 := Tryz.func250.trans (congrArg some (by kernel_rfl))
 f338 := Tryz.func251.trans (congrArg some (by kernel_rfl))
 t0 := Tryz.underlying0
 a0 := Tryz.isAgg0
 z0 := Tryz.sizeOf0
 v0 := Tryz.zeroValue0
 t2 := Tryz.underlying2
 a2 := Tryz.isAgg2
 z2 := Tryz.sizeOf2
 v2 := Tryz.zeroValue2
 t3 := Tryz.underlying3
 a3 := Tryz.isAgg3
 z3 := Tryz.sizeOf3
 v3 := Tryz.zeroValue3
 t4 := Tryz.underlying4
 a4 := Tryz.isAgg4
 z4 := Tryz.sizeOf4
 v4 := Tryz.zeroValue4
 t5 := Tryz.underlying5
 a5 := Tryz.isAgg5
 z5 := Tryz.sizeOf5
 v5 := Tryz.zeroValue5
 t9 := Tryz.underlying9
 a9 := Tryz.isAgg9
 z9 := Tryz.sizeOf9
 v9 := Tryz.zeroValue9
 t20 := Tryz.underlying20
 a20 := Tryz.isAgg20
 z20 := Tryz.sizeOf20
 v20 := Tryz.zeroValue20
 t37 := Tryz.underlying100
 a37 := Tryz.isAgg100
 z37 := Tryz.sizeOf100
 v37 := Tryz.zeroValue100
 t46 := Tryz.underlying186
 a46 := Tryz.isAgg186
 z46 := Tryz.sizeOf186
 v46 := Tryz.zeroValue186
 t51 := Tryz.underlying273
 a51 := Tryz.isAgg273
 z51 := Tryz.sizeOf273
 v51 := Tryz.zeroValue273
 t53 := Tryz.underlying275
 a53 := Tryz.isAgg275
 z53 := Tryz.sizeOf275
 v53 := Tryz.zeroValue275
 t171 := Tryz.underlying309
 a171 := Tryz.isAgg309
 z171 := Tryz.sizeOf309
 v171 := Tryz.zeroValue309
 t173 := Tryz.underlying311
 a173 := Tryz.isAgg311
 z173 := Tryz.sizeOf311
 v173 := Tryz.zeroValue311
 t212 := Tryz.underlying333
 a212 := Tryz.isAgg333
 z212 := Tryz.sizeOf333
 v212 := Tryz.zeroValue333
 t213 := Tryz.underlying334
 a213 := Tryz.isAgg334
 z213 := Tryz.sizeOf334
 t232 := Tryz.underlying349
 a232 := Tryz.isAgg349
 z232 := Tryz.sizeOf349
 v232 := Tryz.zeroValue349
 t233 := Tryz.underlying350
 a233 := Tryz.isAgg350
 z233 := Tryz.sizeOf350
 v233 := Tryz.zeroValue350
 g17 := by kernel_rfl
 g18 := by kernel_rfl
 g19 := by kernel_rfl
 i0 := by kernel_rfl
 i2 := by kernel_rfl
 i3 := by kernel_rfl
 i4 := by kernel_rfl
 i5 := by kernel_rfl
 i9 := by kernel_rfl
 i20 := by kernel_rfl
 i37 := by kernel_rfl
 i46 := by kernel_rfl
 i51 := by kernel_rfl
 i53 := by kernel_rfl
 i171 := by kernel_rfl
 i173 := by kernel_rfl
 i212 := by kernel_rfl
 i232 := by kernel_rfl
 i233 := by kernel_rfl
 m17 := by kernel_rfl
 m18 := by kernel_rfl
 m19 := by kernel_rfl }
open Go.RowKit Go.Sort Go.Lib in
theorem Tryz.strconv_Itoa (n : Int) (h0 : -9223372036854775808 ≤ n) (h1 : n ≤ 9223372036854775807) (w : World) (htab : Lib.TabIs Tryz.prog w "internal/strconv.uint64pow10" .u64 Lib.pow10Tab) :
  Calls Tryz.prog 98 #[.int .i64 n] w fun e w' => e = .returned (.string ⟨(Lib.itoa n).toArray⟩) ∧ ∃ k os, w' = grow (w.drewN k) os := Any.strconv_Itoa Tryz.laysM171 n h0 h1 w htab
def Tryz.laysC172_ren : Go.Shelf.Ren := ⟨fun | 172 => 216 | 244 => 241 | 245 => 242 | 247 => 257 | 279 => 258 | 280 => 259 | 281 => 260 | 282 => 261 | 287 => 269 | 316 => 270 | 171 => 98 | 205 => 271 | 321 => 273 | 322 => 274 | 243 => 158 | 246 => 184 | 283 => 204 | 284 => 205 | 285 => 206 | 286 => 207 | 129 => 156 | 317 => 232 | 318 => 233 | 319 => 234 | 320 => 235 | 337 => 250 | 338 => 251 | n => n, fun | 9 => 9 | 3 => 3 | 75 => 189 | 76 => 190 | 4 => 4 | 5 => 5 | 167 => 342 | 37 => 100 | 0 => 0 | 85 => 343 | 2 => 2 | 168 => 345 | 53 => 275 | 175 => 354 | 46 => 186 | 210 => 358 | 127 => 193 | 145 => 363 | 143 => 361 | 21 => 21 | 171 => 309 | 173 => 311 | 212 => 333 | 51 => 273 | 20 => 20 | 213 => 334 | 232 => 349 | 233 => 350 | 80 => 110 | n => n, fun | 15 => 4 | 16 => 5 | 17 => 1 | 18 => 2 | 19 => 3 | n => n⟩
theorem Tryz.laysC172 : Go.Proofs.LaysC.n172 Tryz.prog Tryz.laysC172_ren := {
 mixed := by kernel_rfl
 f129 := Tryz.func156.trans (congrArg some (by kernel_rfl))
 f171 := Tryz.func98.trans (congrArg some (by kernel_rfl))
 f172 := Tryz.func216.trans (congrArg some (by kernel_rfl))
 f205 := Tryz.func271.trans (congrArg some (by kernel_rfl))
 f243 := Tryz.func158.trans (congrArg some (by kernel_rfl))
 f244 := Tryz.func241.trans (congrArg some (by kernel_rfl))
 f245 := Tryz.func242.trans (congrArg some (by kernel_rfl))
 f246 := Tryz.func184.trans (congrArg some (by kernel_rfl))
 f247 := Tryz.func257.trans (congrArg some (by kernel_rfl))
 f279 := Tryz.func258.trans (congrArg some (by kernel_rfl))
 f280 := Tryz.func259.trans (congrArg some (by kernel_rfl))
 f281 := Tryz.func260.trans (congrArg some (by kernel_rfl))
 f282 := Tryz.func261.trans (congrArg some (by kernel_rfl))
 f283 := Tryz.func204.trans (congrArg some (by kernel_rfl))
 f284 := Tryz.func205.trans (congrArg some (by kernel_rfl))
 f285 := Tryz.func206.trans (congrArg some (by kernel_rfl))
 f286 := Tryz.func207.trans (congrArg some (by kernel_rfl))
 f287 := Tryz.func269.trans (congrArg some (by kernel_rfl))
 f316 := Tryz.func270.trans (congrArg some (by kernel_rfl))
 f317 := Tryz.func232.trans (congrArg some (by kernel_rfl))
 f318 := Tryz.func233.trans (congrArg some (by kernel_rfl))
 f319 := Tryz.func234.trans (congrArg some (by kernel_rfl))
 f320 := Tryz.func235.trans (congrArg some (by kernel_rfl))
 f321 := Tryz.func273.trans (congrArg some (by kernel_rfl))
 f322 := Tryz.func274.trans (congrArg some (by kernel_rfl))
 f337 := Tryz.func250.trans (congrArg some (by kernel_rfl))
 f338 := Tryz.func251.trans (congrArg some (by kernel_rfl))
 t0 := Tryz.underlying0
 a0 := Tryz.isAgg0
 z0 := Tryz.sizeOf0
 v0 := Tryz.zeroValue0
 t2 := Tryz.underlying2
 a2 := Tryz.isAgg2
 z2 := Tryz.sizeOf2
 v2 := Tryz.zeroValue2
 t3 := Tryz.underlying3
 a3 := Tryz.isAgg3
 z3 := Tryz.sizeOf3
 v3 := Tryz.zeroValue3
 t4 := Tryz.underlying4
 a4 := Tryz.isAgg4
 z4 := Tryz.sizeOf4
 v4 := Tryz.zeroValue4
 t5 := Tryz.underlying5
 a5 := Tryz.isAgg5
 z5 := Tryz.sizeOf5
 v5 := Tryz.zeroValue5
 t9 := Tryz.underlying9
 a9 := Tryz.isAgg9
 z9 := Tryz.sizeOf9
 v9 := Tryz.zeroValue9
 t20 := Tryz.underlying20
 a20 := Tryz.isAgg20
 z20 := Tryz.sizeOf20
 v20 := Tryz.zeroValue20
 t21 := Tryz.underlying21
 a21 := Tryz.isAgg21
 z21 := Tryz.sizeOf21
 v21 := Tryz.zeroValue21
 t37 := Tryz.underlying100
 a37 := Tryz.isAgg100
 z37 := Tryz.sizeOf100
 v37 := Tryz.zeroValue100
 t46 := Tryz.underlying186
 a46 := Tryz.isAgg186
 z46 := Tryz.sizeOf186
 v46 := Tryz.zeroValue186
 t51 := Tryz.underlying273
 a51 := Tryz.isAgg273
 z51 := Tryz.sizeOf273
 v51 := Tryz.zeroValue273
 t53 := Tryz.underlying275
 a53 := Tryz.isAgg275
 z53 := Tryz.sizeOf275
 v53 := Tryz.zeroValue275
 t75 := Tryz.underlying189
 a75 := Tryz.isAgg189
 z75 := Tryz.sizeOf189
 v75 := Tryz.zeroValue189
 t76 := Tryz.underlying190
 a76 := Tryz.isAgg190
 z76 := Tryz.sizeOf190
 v76 := Tryz.zeroValue190
 t85 := Tryz.underlying343
 a85 := Tryz.isAgg343
 z85 := Tryz.sizeOf343
 v85 := Tryz.zeroValue343
 t127 := Tryz.underlying193
 a127 := Tryz.isAgg193
 z127 := Tryz.sizeOf193
 v127 := Tryz.zeroValue193
 t143 := Tryz.underlying361
 a143 := Tryz.isAgg361
 z143 := Tryz.sizeOf361
 v143 := Tryz.zeroValue361
 t145 := Tryz.underlying363
 a145 := Tryz.isAgg363
 z145 := Tryz.sizeOf363
 v145 := Tryz.zeroValue363
 t167 := Tryz.underlying342
 a167 := Tryz.isAgg342
 z167 := Tryz.sizeOf342
 v167 := Tryz.zeroValue342
 t168 := Tryz.underlying345
 a168 := Tryz.isAgg345
 z168 := Tryz.sizeOf345
 v168 := Tryz.zeroValue345
 t171 := Tryz.underlying309
 a171 := Tryz.isAgg309
 z171 := Tryz.sizeOf309
 v171 := Tryz.zeroValue309
 t173 := Tryz.underlying311
 a173 := Tryz.isAgg311
 z173 := Tryz.sizeOf311
 v173 := Tryz.zeroValue311
 t175 := Tryz.underlying354
 a175 := Tryz.isAgg354
 z175 := Tryz.sizeOf354
 v175 := Tryz.zeroValue354
 t210 := Tryz.underlying358
 a210 := Tryz.isAgg358
 z210 := Tryz.sizeOf358
 v210 := Tryz.zeroValue358
 t212 := Tryz.underlying333
 a212 := Tryz.isAgg333
 z212 := Tryz.sizeOf333
 v212 := Tryz.zeroValue333
 t213 := Tryz.underlying334
 a213 := Tryz.isAgg334
 z213 := Tryz.sizeOf334
 t232 := Tryz.underlying349
 a232 := Tryz.isAgg349
 z232 := Tryz.sizeOf349
 v232 := Tryz.zeroValue349
 t233 := Tryz.underlying350
 a233 := Tryz.isAgg350
 z233 := Tryz.sizeOf350
 v233 := Tryz.zeroValue350
 g15 := by kernel_rfl
 g16 := by kernel_rfl
 g17 := by kernel_rfl
 g18 := by kernel_rfl
 g19 := by kernel_rfl
 t80 := Tryz.underlying110
 a80 := Tryz.isAgg110
 z80 := Tryz.sizeOf110
 v80 := Tryz.zeroValue110
 i0 := by kernel_rfl
 i2 := by kernel_rfl
 i3 := by kernel_rfl
 i4 := by kernel_rfl
 i5 := by kernel_rfl
 i9 := by kernel_rfl
 i20 := by kernel_rfl
 i21 := by kernel_rfl
 i37 := by kernel_rfl
 i46 := by kernel_rfl
 i51 := by kernel_rfl
 i53 := by kernel_rfl
 i75 := by kernel_rfl
 i76 := by kernel_rfl
 i80 := by kernel_rfl
 i85 := by kernel_rfl
 i127 := by kernel_rfl
 i143 := by kernel_rfl
 i145 := by kernel_rfl
 i167 := by kernel_rfl
 i168 := by kernel_rfl
 i171 := by kernel_rfl
 i173 := by kernel_rfl
 i175 := by kernel_rfl
 i210 := by kernel_rfl
 i212 := by kernel_rfl
 i232 := by kernel_rfl
 i233 := by kernel_rfl
 m15 := by kernel_rfl
 m16 := by kernel_rfl
 m17 := by kernel_rfl
 m18 := by kernel_rfl
 m19 := by kernel_rfl
 c0 := by kernel_rfl
 c2 := by kernel_rfl
 c3 := by kernel_rfl
 c4 := by kernel_rfl
 c5 := by kernel_rfl
 c9 := by kernel_rfl
 c20 := by kernel_rfl
 c21 := by kernel_rfl
 c37 := by kernel_rfl
 c46 := by kernel_rfl
 c51 := by kernel_rfl
 c53 := by kernel_rfl
 c75 := by kernel_rfl
 c76 := by kernel_rfl
 c80 := by kernel_rfl
 c85 := by kernel_rfl
 c127 := by kernel_rfl
 c143 := by kernel_rfl
 c145 := by kernel_rfl
 c167 := by kernel_rfl
 c168 := by kernel_rfl
 c171 := by kernel_rfl
 c173 := by kernel_rfl
 c175 := by kernel_rfl
 c210 := by kernel_rfl
 c212 := by kernel_rfl
 c213 := by kernel_rfl
 c232 := by kernel_rfl
 c233 := by kernel_rfl }
open Go.RowKit in
theorem Tryz.strconv_Atoi_ok (s : ByteArray) (hmax : s.size ≤ 9223372036854775806) (v : Int) (h : Lib.atoiAll s.data.toList = .ok v) (w : World) :
  Calls Tryz.prog 216 #[.string s] w fun e w' => e = .returned (.tuple #[.int .i64 v, .nilIface]) ∧ (w' = w ∨ ∃ t, w' = Lib.bytesWorld w 5 t) := Any.strconv_Atoi_ok Tryz.laysC172 s hmax v h w
open Go.RowKit in
theorem Tryz.strconv_Atoi_no_var (s : ByteArray) (hlim : s.size ≤ 281474976710656) (h : ∀ v, Lib.atoiAll s.data.toList ≠ .ok v) (h2 : Lib.atoiAll s.data.toList ≠ .range) (tp : TypeId) (p : Value) (w : World) (hvar : w.var? Tryz.prog "strconv.ErrSyntax" = some #[.iface tp p]) :
  Calls Tryz.prog 216 #[.string s] w fun e w' => ∃ N, e = .returned (.tuple #[.int .i64 0, .iface 345 (.pointer (some ⟨N, 0, none⟩))]) ∧ w.heap.size ≤ N ∧ w'.heap[N]? = some (.cells #[.string ⟨#[65, 116, 111, 105]⟩, .string s, .iface tp p] 358 (0, 0)) ∧ Below w.heap.size w w' := by
 cases e : Lib.atoiAll s.data.toList
 ·exact absurd e (h _)
 ·exact Any.strconv_Atoi_syntax_var Tryz.laysC172 s hlim e tp p w hvar
 ·exact absurd e h2
open Go.RowKit in
theorem Tryz.strconv_Atoi_range_var (s : ByteArray) (hlim : s.size ≤ 281474976710656) (h : Lib.atoiAll s.data.toList = .range) (tp : TypeId) (p : Value) (w : World) (hvar : w.var? Tryz.prog "strconv.ErrRange" = some #[.iface tp p]) :
  Calls Tryz.prog 216 #[.string s] w fun e w' => ∃ N, e = .returned (.tuple #[.int .i64 (Lib.atoiSat s.data.toList), .iface 345 (.pointer (some ⟨N, 0, none⟩))]) ∧ w.heap.size ≤ N ∧ w'.heap[N]? = some (.cells #[.string ⟨#[65, 116, 111, 105]⟩, .string s, .iface tp p] 358 (0, 0)) ∧ Below w.heap.size w w' := Any.strconv_Atoi_range_var Tryz.laysC172 s hlim h tp p w hvar
open Go.RowKit Go.Lib in
def Tryz.lays145_ren : Go.Shelf.Ren := ⟨fun | 145 => 52 | 220 => 102 | 219 => 160 | 217 => 187 | 225 => 188 | 224 => 189 | 267 => 190 | 266 => 219 | 314 => 220 | n => n, fun | 9 => 9 | 4 => 4 | 59 => 118 | 3 => 3 | 5 => 5 | 46 => 186 | 146 => 320 | 51 => 273 | n => n, fun | 1 => 0 | n => n⟩
theorem Tryz.lays145 : Go.Proofs.Lays.n145 Tryz.prog Tryz.lays145_ren := {
 mixed := by kernel_rfl
 f145 := Tryz.func52.trans (congrArg some (by kernel_rfl))
 f217 := Tryz.func187.trans (congrArg some (by kernel_rfl))
 f219 := Tryz.func160.trans (congrArg some (by kernel_rfl))
 f220 := Tryz.func102.trans (congrArg some (by kernel_rfl))
 f224 := Tryz.func189.trans (congrArg some (by kernel_rfl))
 f225 := Tryz.func188.trans (congrArg some (by kernel_rfl))
 f266 := Tryz.func219.trans (congrArg some (by kernel_rfl))
 f267 := Tryz.func190.trans (congrArg some (by kernel_rfl))
 f314 := Tryz.func220.trans (congrArg some (by kernel_rfl))
 t3 := Tryz.underlying3
 a3 := Tryz.isAgg3
 z3 := Tryz.sizeOf3
 v3 := Tryz.zeroValue3
 t4 := Tryz.underlying4
 a4 := Tryz.isAgg4
 z4 := Tryz.sizeOf4
 v4 := Tryz.zeroValue4
 t5 := Tryz.underlying5
 a5 := Tryz.isAgg5
 z5 := Tryz.sizeOf5
 v5 := Tryz.zeroValue5
 t9 := Tryz.underlying9
 a9 := Tryz.isAgg9
 z9 := Tryz.sizeOf9
 v9 := Tryz.zeroValue9
 t46 := Tryz.underlying186
 a46 := Tryz.isAgg186
 z46 := Tryz.sizeOf186
 v46 := Tryz.zeroValue186
 t51 := Tryz.underlying273
 a51 := Tryz.isAgg273
 z51 := Tryz.sizeOf273
 v51 := Tryz.zeroValue273
 t59 := Tryz.underlying118
 a59 := Tryz.isAgg118
 z59 := Tryz.sizeOf118
 v59 := Tryz.zeroValue118
 t146 := Tryz.underlying320
 a146 := Tryz.isAgg320
 z146 := Tryz.sizeOf320
 v146 := Tryz.zeroValue320
 g1 := by kernel_rfl }
open Go.RowKit Go.Lib in
theorem Tryz.strings_Cut (s sep : ByteArray) (m : Int) (w : World) (hs : s.size < 4294967281) (hm : w.cell? ⟨0, 0, none⟩ = some (.int .i64 m)) :
  Calls Tryz.prog 52 #[.string s, .string sep] w fun e w' => e = .returned (.tuple #[.string ⟨(Lib.cut s.data.toList sep.data.toList).1.toArray⟩, .string ⟨(Lib.cut s.data.toList sep.data.toList).2.1.toArray⟩, .bool (Lib.cut s.data.toList sep.data.toList).2.2]) ∧ ∃ n, w' = w.drewN n := Any.strings_Cut Tryz.lays145 s sep m w hs hm
def Tryz.laysGw15_ren : Go.Shelf.Ren := ⟨fun | 15 => 214 | 20 => 240 | n => n, fun | 9 => 9 | 23 => 316 | 3 => 3 | 4 => 4 | 0 => 0 | 21 => 21 | n => n, fun | n => n⟩
theorem Tryz.laysGw15 : Go.Proofs.LaysGw.n15 Tryz.prog Tryz.laysGw15_ren := {
 mixed := by kernel_rfl
 f15 := Tryz.func214.trans (congrArg some (by kernel_rfl))
 f20 := Tryz.func240.trans (congrArg some (by kernel_rfl))
 t0 := Tryz.underlying0
 a0 := Tryz.isAgg0
 z0 := Tryz.sizeOf0
 v0 := Tryz.zeroValue0
 i0 := by kernel_rfl
 t3 := Tryz.underlying3
 a3 := Tryz.isAgg3
 z3 := Tryz.sizeOf3
 v3 := Tryz.zeroValue3
 i3 := by kernel_rfl
 t4 := Tryz.underlying4
 a4 := Tryz.isAgg4
 z4 := Tryz.sizeOf4
 v4 := Tryz.zeroValue4
 i4 := by kernel_rfl
 t9 := Tryz.underlying9
 a9 := Tryz.isAgg9
 z9 := Tryz.sizeOf9
 v9 := Tryz.zeroValue9
 i9 := by kernel_rfl
 t21 := Tryz.underlying21
 a21 := Tryz.isAgg21
 z21 := Tryz.sizeOf21
 v21 := Tryz.zeroValue21
 i21 := by kernel_rfl
 t23 := Tryz.underlying316
 a23 := Tryz.isAgg316
 z23 := Tryz.sizeOf316
 v23 := Tryz.zeroValue316
 i23 := by kernel_rfl }
def Tryz.lays101_ren : Go.Shelf.Ren := ⟨fun | 101 => 217 | 208 => 243 | 206 => 262 | n => n, fun | 9 => 9 | 4 => 4 | 3 => 3 | n => n, fun | n => n⟩
theorem Tryz.lays101 : Go.Proofs.Lays.n101 Tryz.prog Tryz.lays101_ren := {
 mixed := by kernel_rfl
 f101 := Tryz.func217.trans (congrArg some (by kernel_rfl))
 f206 := Tryz.func262.trans (congrArg some (by kernel_rfl))
 f208 := Tryz.func243.trans (congrArg some (by kernel_rfl))
 t3 := Tryz.underlying3
 a3 := Tryz.isAgg3
 z3 := Tryz.sizeOf3
 v3 := Tryz.zeroValue3
 t4 := Tryz.underlying4
 a4 := Tryz.isAgg4
 z4 := Tryz.sizeOf4
 v4 := Tryz.zeroValue4
 t9 := Tryz.underlying9
 a9 := Tryz.isAgg9
 z9 := Tryz.sizeOf9
 v9 := Tryz.zeroValue9 }
open Go.RowKit Go.Lib in
theorem Tryz.strings_TrimPrefix (s p : ByteArray) (w : World) :
  Calls Tryz.prog 217 #[.string s, .string p] w fun e w' => e = .returned (.string ⟨(Lib.trimPrefix s.data.toList p.data.toList).toArray⟩) ∧ w' = w := Any.strings_TrimPrefix Tryz.lays101 s p w
def Tryz.lays146_ren : Go.Shelf.Ren := ⟨fun | 146 => 213 | 221 => 239 | 268 => 254 | 138 => 255 | 143 => 256 | 195 => 266 | 197 => 267 | 218 => 268 | 219 => 160 | 260 => 272 | 217 => 187 | 225 => 188 | 224 => 189 | 267 => 190 | 266 => 219 | 314 => 220 | n => n, fun | 9 => 9 | 31 => 32 | 3 => 3 | 4 => 4 | 0 => 0 | 105 => 352 | 21 => 21 | 5 => 5 | 46 => 186 | 119 => 364 | 139 => 367 | 138 => 366 | 146 => 320 | 51 => 273 | n => n, fun | 1 => 0 | 3 => 6 | 4 => 7 | n => n⟩
theorem Tryz.lays146 : Go.Proofs.Lays.n146 Tryz.prog Tryz.lays146_ren := {
 mixed := by kernel_rfl
 f138 := Tryz.func255.trans (congrArg some (by kernel_rfl))
 f143 := Tryz.func256.trans (congrArg some (by kernel_rfl))
 f146 := Tryz.func213.trans (congrArg some (by kernel_rfl))
 f195 := Tryz.func266.trans (congrArg some (by kernel_rfl))
 f197 := Tryz.func267.trans (congrArg some (by kernel_rfl))
 f217 := Tryz.func187.trans (congrArg some (by kernel_rfl))
 f218 := Tryz.func268.trans (congrArg some (by kernel_rfl))
 f219 := Tryz.func160.trans (congrArg some (by kernel_rfl))
 f221 := Tryz.func239.trans (congrArg some (by kernel_rfl))
 f224 := Tryz.func189.trans (congrArg some (by kernel_rfl))
 f225 := Tryz.func188.trans (congrArg some (by kernel_rfl))
 f260 := Tryz.func272.trans (congrArg some (by kernel_rfl))
 f266 := Tryz.func219.trans (congrArg some (by kernel_rfl))
 f267 := Tryz.func190.trans (congrArg some (by kernel_rfl))
 f268 := Tryz.func254.trans (congrArg some (by kernel_rfl))
 f314 := Tryz.func220.trans (congrArg some (by kernel_rfl))
 t0 := Tryz.underlying0
 a0 := Tryz.isAgg0
 z0 := Tryz.sizeOf0
 v0 := Tryz.zeroValue0
 t3 := Tryz.underlying3
 a3 := Tryz.isAgg3
 z3 := Tryz.sizeOf3
 v3 := Tryz.zeroValue3
 t4 := Tryz.underlying4
 a4 := Tryz.isAgg4
 z4 := Tryz.sizeOf4
 v4 := Tryz.zeroValue4
 t5 := Tryz.underlying5
 a5 := Tryz.isAgg5
 z5 := Tryz.sizeOf5
 v5 := Tryz.zeroValue5
 t9 := Tryz.underlying9
 a9 := Tryz.isAgg9
 z9 := Tryz.sizeOf9
 v9 := Tryz.zeroValue9
 t21 := Tryz.underlying21
 a21 := Tryz.isAgg21
 z21 := Tryz.sizeOf21
 v21 := Tryz.zeroValue21
 t31 := Tryz.underlying32
 a31 := Tryz.isAgg32
 z31 := Tryz.sizeOf32
 v31 := Tryz.zeroValue32
 t46 := Tryz.underlying186
 a46 := Tryz.isAgg186
 z46 := Tryz.sizeOf186
 v46 := Tryz.zeroValue186
 t51 := Tryz.underlying273
 a51 := Tryz.isAgg273
 z51 := Tryz.sizeOf273
 v51 := Tryz.zeroValue273
 t105 := Tryz.underlying352
 a105 := Tryz.isAgg352
 z105 := Tryz.sizeOf352
 v105 := Tryz.zeroValue352
 t119 := Tryz.underlying364
 a119 := Tryz.isAgg364
 z119 := Tryz.sizeOf364
 t138 := Tryz.underlying366
 a138 := Tryz.isAgg366
 z138 := Tryz.sizeOf366
 v138 := Tryz.zeroValue366
 t139 := Tryz.underlying367
 a139 := Tryz.isAgg367
 z139 := Tryz.sizeOf367
 v139 := Tryz.zeroValue367
 t146 := Tryz.underlying320
 a146 := Tryz.isAgg320
 z146 := Tryz.sizeOf320
 v146 := Tryz.zeroValue320
 g1 := by kernel_rfl
 g3 := by kernel_rfl
 g4 := by kernel_rfl }
open Go.RowKit Go.Lib in
theorem Tryz.strings_Split (s sep : ByteArray) (m : Int) (w : World) (hs : s.size < 4294967281) (hm : w.cell? ⟨0, 0, none⟩ = some (.int .i64 m)) (h1 : 1 ≤ sep.size) :
  Calls Tryz.prog 213 #[.string s, .string sep] w fun e w' =>
   e = .returned (.slice (some ⟨w.heap.size, 0, none⟩) (Lib.countB s sep + 1) (Lib.countB s sep + 1)) ∧ w' = w.alloc (.cells ((Lib.splitB sep 0 (Lib.countB s sep) s).map Value.string).toArray 9) := Any.strings_Split Tryz.lays146 (by kernel_rfl) s sep m w hs hm h1
open Go.RowKit Go.Lib in
theorem Tryz.strings_IndexFunc_grows (g : Nat) (lb : Array Value) (eg : ∀ args w, (callFunc g args).run Tryz.prog w = .ok (.enter g args) w) (p : Nat → Bool) (s : ByteArray) (w : World) (hp : PredGrows Tryz.prog g lb p w) :
  Calls Tryz.prog 214 #[.string s, .func (.func g) #[] lb] w fun e w' => e = .returned (.int .i64 (Lib.idxFunc p true s)) ∧ Below w.heap.size w w' := Any.strings_IndexFunc_grows Tryz.laysGw15 g lb eg p s w hp
end Go.Proofs
