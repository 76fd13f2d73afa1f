/-
  DERIVED: THE SHELF's CONTRACTS AT THIS DUMP, IN PLAIN WORDS (tools/lay-plain.mjs out of 'TryzShB.lean', which tools/lay-shelf.mjs wrote): THE SAME DECLARATIONS UNDER THE SAME NAMES: 'import', 'namespace', 'open', 'def', 'theorem' AND NOTHING ELSE: no command of the shelf's: FOR A HAND-IN. Each laying: the table of numbers ('.._ren') and one theorem, a field a fact of the dump's own or the kernel's comparison; each contract: ONE APPLICATION.
-/
import Derived.Shelf.Strconv.Atoi
import Derived.Shelf.Strconv.Itoa0
import Derived.Shelf.Strconv.Itoa1
import Derived.Shelf.LaysM
import Derived.Shelf.Strconv.Itoa2
import Derived.Shelf.Strconv.Itoa3
import Derived.Shelf.Strconv.AtoiErrFast
import Derived.Shelf.Strconv.AtoiFail
import Derived.Shelf.LaysC
import Derived.Shelf.Strconv.AtoiErr
import Derived.Shelf.Strconv.ErrVar
import Derived.Shelf.Strconv.AtoiLong
import Derived.Shelf.Strconv.AtoiInnerAll
import Derived.Shelf.Strconv.AtoiAll
import Derived.Shelf.Strconv.ErrVarAll
import Derived.Shelf.Sort.Plain
import Derived.Shelf.Strings.Prefix
import Derived.Shelf.Strings.Split
import Derived.Shelf.Strings.SplitShaped
import Derived.Ground.Names2Prog
import Derived.Test.YtjekioabkmijbaaGreatDoorProg
namespace Go.Proofs
open Go.Shelf
def Tryz.laysM171_ren : Go.Shelf.Ren := ⟨fun | 171 => 108 | 243 => 165 | 246 => 193 | 283 => 210 | 284 => 211 | 285 => 212 | 286 => 213 | 129 => 181 | 317 => 226 | 318 => 227 | 319 => 228 | 320 => 229 | 337 => 236 | 338 => 237 | n => n, fun | 3 => 3 | 9 => 9 | 2 => 2 | 4 => 4 | 171 => 261 | 0 => 0 | 53 => 113 | 37 => 208 | 5 => 5 | 173 => 263 | 212 => 276 | 51 => 238 | 20 => 20 | 213 => 277 | 46 => 196 | 232 => 296 | 233 => 297 | n => n, fun | 17 => 1 | 18 => 6 | 19 => 7 | n => n⟩
theorem Tryz.laysM171 : Go.Proofs.LaysM.n171 Tryz.prog Tryz.laysM171_ren := {
  mixed := by kernel_rfl
  f129 := Tryz.func181.trans (congrArg some (by kernel_rfl))
  f171 := Tryz.func108.trans (congrArg some (by kernel_rfl))
  f243 := Tryz.func165.trans (congrArg some (by kernel_rfl))
  f246 := Tryz.func193.trans (congrArg some (by kernel_rfl))
  f283 := Tryz.func210.trans (congrArg some (by kernel_rfl))
  f284 := Tryz.func211.trans (congrArg some (by kernel_rfl))
  f285 := Tryz.func212.trans (congrArg some (by kernel_rfl))
  f286 := Tryz.func213.trans (congrArg some (by kernel_rfl))
  f317 := Tryz.func226.trans (congrArg some (by kernel_rfl))
  f318 := Tryz.func227.trans (congrArg some (by kernel_rfl))
  f319 := Tryz.func228.trans (congrArg some (by kernel_rfl))
  f320 := Tryz.func229.trans (congrArg some (by kernel_rfl))
  f337 := Tryz.func236.trans (congrArg some (by kernel_rfl))
  f338 := Tryz.func237.trans (congrArg some (by kernel_rfl))
  t0 := Tryz.underlying0
  a0 := Tryz.isAgg0
  z0 := Tryz.sizeOf0
  v0 := Tryz.zeroValue0
  t2 := Tryz.underlying2
  a2 := Tryz.isAgg2
  z2 := Tryz.sizeOf2
  v2 := Tryz.zeroValue2
  t3 := Tryz.underlying3
  a3 := Tryz.isAgg3
  z3 := Tryz.sizeOf3
  v3 := Tryz.zeroValue3
  t4 := Tryz.underlying4
  a4 := Tryz.isAgg4
  z4 := Tryz.sizeOf4
  v4 := Tryz.zeroValue4
  t5 := Tryz.underlying5
  a5 := Tryz.isAgg5
  z5 := Tryz.sizeOf5
  v5 := Tryz.zeroValue5
  t9 := Tryz.underlying9
  a9 := Tryz.isAgg9
  z9 := Tryz.sizeOf9
  v9 := Tryz.zeroValue9
  t20 := Tryz.underlying20
  a20 := Tryz.isAgg20
  z20 := Tryz.sizeOf20
  v20 := Tryz.zeroValue20
  t37 := Tryz.underlying208
  a37 := Tryz.isAgg208
  z37 := Tryz.sizeOf208
  v37 := Tryz.zeroValue208
  t46 := Tryz.underlying196
  a46 := Tryz.isAgg196
  z46 := Tryz.sizeOf196
  v46 := Tryz.zeroValue196
  t51 := Tryz.underlying238
  a51 := Tryz.isAgg238
  z51 := Tryz.sizeOf238
  v51 := Tryz.zeroValue238
  t53 := Tryz.underlying113
  a53 := Tryz.isAgg113
  z53 := Tryz.sizeOf113
  v53 := Tryz.zeroValue113
  t171 := Tryz.underlying261
  a171 := Tryz.isAgg261
  z171 := Tryz.sizeOf261
  v171 := Tryz.zeroValue261
  t173 := Tryz.underlying263
  a173 := Tryz.isAgg263
  z173 := Tryz.sizeOf263
  v173 := Tryz.zeroValue263
  t212 := Tryz.underlying276
  a212 := Tryz.isAgg276
  z212 := Tryz.sizeOf276
  v212 := Tryz.zeroValue276
  t213 := Tryz.underlying277
  a213 := Tryz.isAgg277
  z213 := Tryz.sizeOf277
  t232 := Tryz.underlying296
  a232 := Tryz.isAgg296
  z232 := Tryz.sizeOf296
  v232 := Tryz.zeroValue296
  t233 := Tryz.underlying297
  a233 := Tryz.isAgg297
  z233 := Tryz.sizeOf297
  v233 := Tryz.zeroValue297
  g17 := by kernel_rfl
  g18 := by kernel_rfl
  g19 := by kernel_rfl
  i0 := by kernel_rfl
  i2 := by kernel_rfl
  i3 := by kernel_rfl
  i4 := by kernel_rfl
  i5 := by kernel_rfl
  i9 := by kernel_rfl
  i20 := by kernel_rfl
  i37 := by kernel_rfl
  i46 := by kernel_rfl
  i51 := by kernel_rfl
  i53 := by kernel_rfl
  i171 := by kernel_rfl
  i173 := by kernel_rfl
  i212 := by kernel_rfl
  i232 := by kernel_rfl
  i233 := by kernel_rfl
  m17 := by kernel_rfl
  m18 := by kernel_rfl
  m19 := by kernel_rfl }
open Go.RowKit Go.Sort Go.Lib in
/-- strconv.Itoa: "Itoa is equivalent to FormatInt(int64(i), 10).": i's DECIMAL NUMERAL ('Lib.itoa': a '-' where i is negative, then the digits), FOR EVERY int. The world behind the call: the world before it, new blocks behind the heap (the library's 'var a [24]byte'), draws. (LAID: no walk: one application.) -/
theorem Tryz.strconv_Itoa (n : Int) (h0 : -9223372036854775808 ≤ n) (h1 : n ≤ 9223372036854775807) (w : World) (htab : Lib.TabIs Tryz.prog w "internal/strconv.uint64pow10" .u64 Lib.pow10Tab) :
    Calls Tryz.prog 108 #[.int .i64 n] w fun e w' => e = .returned (.string ⟨(Lib.itoa n).toArray⟩) ∧ ∃ k os, w' = grow (w.drewN k) os := Any.strconv_Itoa Tryz.laysM171 n h0 h1 w htab
def Tryz.lays171_ren : Go.Shelf.Ren := ⟨fun | 171 => 108 | 243 => 165 | 246 => 193 | 283 => 210 | 284 => 211 | 285 => 212 | 286 => 213 | 129 => 181 | 317 => 226 | 318 => 227 | 319 => 228 | 320 => 229 | 337 => 236 | 338 => 237 | n => n, fun | 3 => 3 | 9 => 9 | 2 => 2 | 4 => 4 | 171 => 261 | 0 => 0 | 53 => 113 | 37 => 208 | 5 => 5 | 173 => 263 | 212 => 276 | 51 => 238 | 20 => 20 | 213 => 277 | 46 => 196 | 232 => 296 | 233 => 297 | n => n, fun | 17 => 1 | 18 => 6 | 19 => 7 | n => n⟩
theorem Tryz.lays171 : Go.Proofs.Lays.n171 Tryz.prog Tryz.lays171_ren := {
  mixed := by kernel_rfl
  f129 := Tryz.func181.trans (congrArg some (by kernel_rfl))
  f171 := Tryz.func108.trans (congrArg some (by kernel_rfl))
  f243 := Tryz.func165.trans (congrArg some (by kernel_rfl))
  f246 := Tryz.func193.trans (congrArg some (by kernel_rfl))
  f283 := Tryz.func210.trans (congrArg some (by kernel_rfl))
  f284 := Tryz.func211.trans (congrArg some (by kernel_rfl))
  f285 := Tryz.func212.trans (congrArg some (by kernel_rfl))
  f286 := Tryz.func213.trans (congrArg some (by kernel_rfl))
  f317 := Tryz.func226.trans (congrArg some (by kernel_rfl))
  f318 := Tryz.func227.trans (congrArg some (by kernel_rfl))
  f319 := Tryz.func228.trans (congrArg some (by kernel_rfl))
  f320 := Tryz.func229.trans (congrArg some (by kernel_rfl))
  f337 := Tryz.func236.trans (congrArg some (by kernel_rfl))
  f338 := Tryz.func237.trans (congrArg some (by kernel_rfl))
  t0 := Tryz.underlying0
  a0 := Tryz.isAgg0
  z0 := Tryz.sizeOf0
  v0 := Tryz.zeroValue0
  t2 := Tryz.underlying2
  a2 := Tryz.isAgg2
  z2 := Tryz.sizeOf2
  v2 := Tryz.zeroValue2
  t3 := Tryz.underlying3
  a3 := Tryz.isAgg3
  z3 := Tryz.sizeOf3
  v3 := Tryz.zeroValue3
  t4 := Tryz.underlying4
  a4 := Tryz.isAgg4
  z4 := Tryz.sizeOf4
  v4 := Tryz.zeroValue4
  t5 := Tryz.underlying5
  a5 := Tryz.isAgg5
  z5 := Tryz.sizeOf5
  v5 := Tryz.zeroValue5
  t9 := Tryz.underlying9
  a9 := Tryz.isAgg9
  z9 := Tryz.sizeOf9
  v9 := Tryz.zeroValue9
  t20 := Tryz.underlying20
  a20 := Tryz.isAgg20
  z20 := Tryz.sizeOf20
  v20 := Tryz.zeroValue20
  t37 := Tryz.underlying208
  a37 := Tryz.isAgg208
  z37 := Tryz.sizeOf208
  v37 := Tryz.zeroValue208
  t46 := Tryz.underlying196
  a46 := Tryz.isAgg196
  z46 := Tryz.sizeOf196
  v46 := Tryz.zeroValue196
  t51 := Tryz.underlying238
  a51 := Tryz.isAgg238
  z51 := Tryz.sizeOf238
  v51 := Tryz.zeroValue238
  t53 := Tryz.underlying113
  a53 := Tryz.isAgg113
  z53 := Tryz.sizeOf113
  v53 := Tryz.zeroValue113
  t171 := Tryz.underlying261
  a171 := Tryz.isAgg261
  z171 := Tryz.sizeOf261
  v171 := Tryz.zeroValue261
  t173 := Tryz.underlying263
  a173 := Tryz.isAgg263
  z173 := Tryz.sizeOf263
  v173 := Tryz.zeroValue263
  t212 := Tryz.underlying276
  a212 := Tryz.isAgg276
  z212 := Tryz.sizeOf276
  v212 := Tryz.zeroValue276
  t213 := Tryz.underlying277
  a213 := Tryz.isAgg277
  z213 := Tryz.sizeOf277
  t232 := Tryz.underlying296
  a232 := Tryz.isAgg296
  z232 := Tryz.sizeOf296
  v232 := Tryz.zeroValue296
  t233 := Tryz.underlying297
  a233 := Tryz.isAgg297
  z233 := Tryz.sizeOf297
  v233 := Tryz.zeroValue297
  g17 := by kernel_rfl
  g18 := by kernel_rfl
  g19 := by kernel_rfl }
open Go.RowKit Go.Sort Go.Lib in
/-- THE ROAD WITHOUT THE TABLE: 0 <= i < 100: NO PREMISE ON THE WORLD, AND THE WORLD IS AS IT WAS: a row that keeps its argument in that range need list no table ('laid = []'). (LAID: no walk: one application.) -/
theorem Tryz.strconv_Itoa_small (i : Nat) (hi : i < 100) (w : World) :
    Calls Tryz.prog 108 #[.int .i64 i] w fun e w' => e = .returned (.string ⟨(Lib.decDigits i).toArray⟩) ∧ w' = w := Any.strconv_Itoa_small Tryz.lays171 i hi w
def Tryz.laysC172_ren : Go.Shelf.Ren := ⟨fun | 172 => 166 | 244 => 194 | 245 => 195 | 247 => 214 | 279 => 215 | 280 => 216 | 281 => 217 | 282 => 218 | 287 => 230 | 316 => 231 | 171 => 108 | 205 => 232 | 321 => 238 | 322 => 239 | 243 => 165 | 246 => 193 | 283 => 210 | 284 => 211 | 285 => 212 | 286 => 213 | 129 => 181 | 317 => 226 | 318 => 227 | 319 => 228 | 320 => 229 | 337 => 236 | 338 => 237 | n => n, fun | 9 => 9 | 3 => 3 | 75 => 213 | 76 => 214 | 4 => 4 | 5 => 5 | 167 => 265 | 37 => 208 | 0 => 0 | 85 => 266 | 2 => 2 | 168 => 268 | 53 => 113 | 175 => 278 | 46 => 196 | 210 => 282 | 127 => 244 | 145 => 295 | 143 => 293 | 21 => 21 | 171 => 261 | 173 => 263 | 212 => 276 | 51 => 238 | 20 => 20 | 213 => 277 | 232 => 296 | 233 => 297 | 80 => 216 | n => n, fun | 15 => 2 | 16 => 3 | 17 => 1 | 18 => 6 | 19 => 7 | n => n⟩
theorem Tryz.laysC172 : Go.Proofs.LaysC.n172 Tryz.prog Tryz.laysC172_ren := {
  mixed := by kernel_rfl
  f129 := Tryz.func181.trans (congrArg some (by kernel_rfl))
  f171 := Tryz.func108.trans (congrArg some (by kernel_rfl))
  f172 := Tryz.func166.trans (congrArg some (by kernel_rfl))
  f205 := Tryz.func232.trans (congrArg some (by kernel_rfl))
  f243 := Tryz.func165.trans (congrArg some (by kernel_rfl))
  f244 := Tryz.func194.trans (congrArg some (by kernel_rfl))
  f245 := Tryz.func195.trans (congrArg some (by kernel_rfl))
  f246 := Tryz.func193.trans (congrArg some (by kernel_rfl))
  f247 := Tryz.func214.trans (congrArg some (by kernel_rfl))
  f279 := Tryz.func215.trans (congrArg some (by kernel_rfl))
  f280 := Tryz.func216.trans (congrArg some (by kernel_rfl))
  f281 := Tryz.func217.trans (congrArg some (by kernel_rfl))
  f282 := Tryz.func218.trans (congrArg some (by kernel_rfl))
  f283 := Tryz.func210.trans (congrArg some (by kernel_rfl))
  f284 := Tryz.func211.trans (congrArg some (by kernel_rfl))
  f285 := Tryz.func212.trans (congrArg some (by kernel_rfl))
  f286 := Tryz.func213.trans (congrArg some (by kernel_rfl))
  f287 := Tryz.func230.trans (congrArg some (by kernel_rfl))
  f316 := Tryz.func231.trans (congrArg some (by kernel_rfl))
  f317 := Tryz.func226.trans (congrArg some (by kernel_rfl))
  f318 := Tryz.func227.trans (congrArg some (by kernel_rfl))
  f319 := Tryz.func228.trans (congrArg some (by kernel_rfl))
  f320 := Tryz.func229.trans (congrArg some (by kernel_rfl))
  f321 := Tryz.func238.trans (congrArg some (by kernel_rfl))
  f322 := Tryz.func239.trans (congrArg some (by kernel_rfl))
  f337 := Tryz.func236.trans (congrArg some (by kernel_rfl))
  f338 := Tryz.func237.trans (congrArg some (by kernel_rfl))
  t0 := Tryz.underlying0
  a0 := Tryz.isAgg0
  z0 := Tryz.sizeOf0
  v0 := Tryz.zeroValue0
  t2 := Tryz.underlying2
  a2 := Tryz.isAgg2
  z2 := Tryz.sizeOf2
  v2 := Tryz.zeroValue2
  t3 := Tryz.underlying3
  a3 := Tryz.isAgg3
  z3 := Tryz.sizeOf3
  v3 := Tryz.zeroValue3
  t4 := Tryz.underlying4
  a4 := Tryz.isAgg4
  z4 := Tryz.sizeOf4
  v4 := Tryz.zeroValue4
  t5 := Tryz.underlying5
  a5 := Tryz.isAgg5
  z5 := Tryz.sizeOf5
  v5 := Tryz.zeroValue5
  t9 := Tryz.underlying9
  a9 := Tryz.isAgg9
  z9 := Tryz.sizeOf9
  v9 := Tryz.zeroValue9
  t20 := Tryz.underlying20
  a20 := Tryz.isAgg20
  z20 := Tryz.sizeOf20
  v20 := Tryz.zeroValue20
  t21 := Tryz.underlying21
  a21 := Tryz.isAgg21
  z21 := Tryz.sizeOf21
  v21 := Tryz.zeroValue21
  t37 := Tryz.underlying208
  a37 := Tryz.isAgg208
  z37 := Tryz.sizeOf208
  v37 := Tryz.zeroValue208
  t46 := Tryz.underlying196
  a46 := Tryz.isAgg196
  z46 := Tryz.sizeOf196
  v46 := Tryz.zeroValue196
  t51 := Tryz.underlying238
  a51 := Tryz.isAgg238
  z51 := Tryz.sizeOf238
  v51 := Tryz.zeroValue238
  t53 := Tryz.underlying113
  a53 := Tryz.isAgg113
  z53 := Tryz.sizeOf113
  v53 := Tryz.zeroValue113
  t75 := Tryz.underlying213
  a75 := Tryz.isAgg213
  z75 := Tryz.sizeOf213
  v75 := Tryz.zeroValue213
  t76 := Tryz.underlying214
  a76 := Tryz.isAgg214
  z76 := Tryz.sizeOf214
  v76 := Tryz.zeroValue214
  t85 := Tryz.underlying266
  a85 := Tryz.isAgg266
  z85 := Tryz.sizeOf266
  v85 := Tryz.zeroValue266
  t127 := Tryz.underlying244
  a127 := Tryz.isAgg244
  z127 := Tryz.sizeOf244
  v127 := Tryz.zeroValue244
  t143 := Tryz.underlying293
  a143 := Tryz.isAgg293
  z143 := Tryz.sizeOf293
  v143 := Tryz.zeroValue293
  t145 := Tryz.underlying295
  a145 := Tryz.isAgg295
  z145 := Tryz.sizeOf295
  v145 := Tryz.zeroValue295
  t167 := Tryz.underlying265
  a167 := Tryz.isAgg265
  z167 := Tryz.sizeOf265
  v167 := Tryz.zeroValue265
  t168 := Tryz.underlying268
  a168 := Tryz.isAgg268
  z168 := Tryz.sizeOf268
  v168 := Tryz.zeroValue268
  t171 := Tryz.underlying261
  a171 := Tryz.isAgg261
  z171 := Tryz.sizeOf261
  v171 := Tryz.zeroValue261
  t173 := Tryz.underlying263
  a173 := Tryz.isAgg263
  z173 := Tryz.sizeOf263
  v173 := Tryz.zeroValue263
  t175 := Tryz.underlying278
  a175 := Tryz.isAgg278
  z175 := Tryz.sizeOf278
  v175 := Tryz.zeroValue278
  t210 := Tryz.underlying282
  a210 := Tryz.isAgg282
  z210 := Tryz.sizeOf282
  v210 := Tryz.zeroValue282
  t212 := Tryz.underlying276
  a212 := Tryz.isAgg276
  z212 := Tryz.sizeOf276
  v212 := Tryz.zeroValue276
  t213 := Tryz.underlying277
  a213 := Tryz.isAgg277
  z213 := Tryz.sizeOf277
  t232 := Tryz.underlying296
  a232 := Tryz.isAgg296
  z232 := Tryz.sizeOf296
  v232 := Tryz.zeroValue296
  t233 := Tryz.underlying297
  a233 := Tryz.isAgg297
  z233 := Tryz.sizeOf297
  v233 := Tryz.zeroValue297
  g15 := by kernel_rfl
  g16 := by kernel_rfl
  g17 := by kernel_rfl
  g18 := by kernel_rfl
  g19 := by kernel_rfl
  t80 := Tryz.underlying216
  a80 := Tryz.isAgg216
  z80 := Tryz.sizeOf216
  v80 := Tryz.zeroValue216
  i0 := by kernel_rfl
  i2 := by kernel_rfl
  i3 := by kernel_rfl
  i4 := by kernel_rfl
  i5 := by kernel_rfl
  i9 := by kernel_rfl
  i20 := by kernel_rfl
  i21 := by kernel_rfl
  i37 := by kernel_rfl
  i46 := by kernel_rfl
  i51 := by kernel_rfl
  i53 := by kernel_rfl
  i75 := by kernel_rfl
  i76 := by kernel_rfl
  i80 := by kernel_rfl
  i85 := by kernel_rfl
  i127 := by kernel_rfl
  i143 := by kernel_rfl
  i145 := by kernel_rfl
  i167 := by kernel_rfl
  i168 := by kernel_rfl
  i171 := by kernel_rfl
  i173 := by kernel_rfl
  i175 := by kernel_rfl
  i210 := by kernel_rfl
  i212 := by kernel_rfl
  i232 := by kernel_rfl
  i233 := by kernel_rfl
  m15 := by kernel_rfl
  m16 := by kernel_rfl
  m17 := by kernel_rfl
  m18 := by kernel_rfl
  m19 := by kernel_rfl
  c0 := by kernel_rfl
  c2 := by kernel_rfl
  c3 := by kernel_rfl
  c4 := by kernel_rfl
  c5 := by kernel_rfl
  c9 := by kernel_rfl
  c20 := by kernel_rfl
  c21 := by kernel_rfl
  c37 := by kernel_rfl
  c46 := by kernel_rfl
  c51 := by kernel_rfl
  c53 := by kernel_rfl
  c75 := by kernel_rfl
  c76 := by kernel_rfl
  c80 := by kernel_rfl
  c85 := by kernel_rfl
  c127 := by kernel_rfl
  c143 := by kernel_rfl
  c145 := by kernel_rfl
  c167 := by kernel_rfl
  c168 := by kernel_rfl
  c171 := by kernel_rfl
  c173 := by kernel_rfl
  c175 := by kernel_rfl
  c210 := by kernel_rfl
  c212 := by kernel_rfl
  c213 := by kernel_rfl
  c232 := by kernel_rfl
  c233 := by kernel_rfl }
open Go.RowKit in
/-- strconv.Atoi, AT EVERY STRING THAT SPELLS AN int ('Lib.atoiAll .. = .ok v'; of whatever length: leading zeros count): v, AND NO ERROR. The world: as it was, or with the one new row that '[]byte(..)' lays. (LAID: no walk: one application.) -/
theorem Tryz.strconv_Atoi_ok (s : ByteArray) (hmax : s.size ≤ 9223372036854775806) (v : Int) (h : Lib.atoiAll s.data.toList = .ok v) (w : World) :
    Calls Tryz.prog 166 #[.string s] w fun e w' => e = .returned (.tuple #[.int .i64 v, .nilIface]) ∧ (w' = w ∨ ∃ t, w' = Lib.bytesWorld w 5 t) := Any.strconv_Atoi_ok Tryz.laysC172 s hmax v h w
open Go.RowKit in
/-- strconv.Atoi, AT EVERY STRING THAT IS NO DECIMAL NUMERAL ('.syntax'): 0, AND AN ERROR THAT IS NOT nil: a *NumError in a new block N: {Func: "Atoi", Num: s's bytes, Err: what the variable ErrSyntax holds}. Of what was there nothing has turned. (LAID: no walk: one application.) -/
theorem Tryz.strconv_Atoi_syntax (s : ByteArray) (hlim : s.size ≤ 281474976710656) (h : Lib.atoiAll s.data.toList = Lib.atoiAll []) (ev : Value) (w : World) (hv : w.cell? ⟨2, 0, none⟩ = some ev) (hev : ev = .nilIface ∨ ∃ te pe, ev = .iface te pe) :
    Calls Tryz.prog 166 #[.string s] w fun e w' => ∃ N, e = .returned (.tuple #[.int .i64 (0), .iface 268 (.pointer (some ⟨N, 0, none⟩))]) ∧ w.heap.size ≤ N ∧ w'.heap[N]? = some (.cells #[.string ⟨#[65, 116, 111, 105]⟩, .string s, ev] 282 (0, 0)) ∧ Below w.heap.size w w' := Any.strconv_Atoi_syntax Tryz.laysC172 s hlim h ev w hv hev
open Go.RowKit in
/-- strconv.Atoi, AT EVERY NUMERAL THAT NO int HOLDS ('.range'): THE GREATEST OR THE LEAST int, BY THE SIGN ('Lib.atoiSat'), AND AN ERROR THAT IS NOT nil: a *NumError in a new block N: {Func: "Atoi", Num: s's bytes, Err: what the variable ErrRange holds}. Of what was there nothing has turned. (LAID: no walk: one application.) -/
theorem Tryz.strconv_Atoi_range (s : ByteArray) (hlim : s.size ≤ 281474976710656) (h : Lib.atoiAll s.data.toList = .range) (ev : Value) (w : World) (hv : w.cell? ⟨3, 0, none⟩ = some ev) (hev : ev = .nilIface ∨ ∃ te pe, ev = .iface te pe) :
    Calls Tryz.prog 166 #[.string s] w fun e w' => ∃ N, e = .returned (.tuple #[.int .i64 (Lib.atoiSat s.data.toList), .iface 268 (.pointer (some ⟨N, 0, none⟩))]) ∧ w.heap.size ≤ N ∧ w'.heap[N]? = some (.cells #[.string ⟨#[65, 116, 111, 105]⟩, .string s, ev] 282 (0, 0)) ∧ Below w.heap.size w w' := Any.strconv_Atoi_range Tryz.laysC172 s hlim h ev w hv hev
def Tryz.lays101_ren : Go.Shelf.Ren := ⟨fun | 101 => 207 | 208 => 225 | 206 => 235 | n => n, fun | 9 => 9 | 4 => 4 | 3 => 3 | n => n, fun | n => n⟩
theorem Tryz.lays101 : Go.Proofs.Lays.n101 Tryz.prog Tryz.lays101_ren := {
  mixed := by kernel_rfl
  f101 := Tryz.func207.trans (congrArg some (by kernel_rfl))
  f206 := Tryz.func235.trans (congrArg some (by kernel_rfl))
  f208 := Tryz.func225.trans (congrArg some (by kernel_rfl))
  t3 := Tryz.underlying3
  a3 := Tryz.isAgg3
  z3 := Tryz.sizeOf3
  v3 := Tryz.zeroValue3
  t4 := Tryz.underlying4
  a4 := Tryz.isAgg4
  z4 := Tryz.sizeOf4
  v4 := Tryz.zeroValue4
  t9 := Tryz.underlying9
  a9 := Tryz.isAgg9
  z9 := Tryz.sizeOf9
  v9 := Tryz.zeroValue9 }
open Go.RowKit Go.Lib in
/-- strings.TrimPrefix: "TrimPrefix returns s without the provided leading prefix string. If s doesn't start with prefix, s is returned unchanged.": IT RETURNS 'Lib.trimPrefix s prefix'; the world is as it was. (LAID: no walk: one application.) -/
theorem Tryz.strings_TrimPrefix (s p : ByteArray) (w : World) :
    Calls Tryz.prog 207 #[.string s, .string p] w fun e w' => e = .returned (.string ⟨(Lib.trimPrefix s.data.toList p.data.toList).toArray⟩) ∧ w' = w := Any.strings_TrimPrefix Tryz.lays101 s p w
def Tryz.lays146_ren : Go.Shelf.Ren := ⟨fun | 146 => 95 | 221 => 157 | 268 => 183 | 138 => 184 | 143 => 185 | 195 => 203 | 197 => 204 | 218 => 205 | 219 => 206 | 260 => 220 | 217 => 221 | 225 => 222 | 224 => 223 | 267 => 224 | 266 => 233 | 314 => 234 | n => n, fun | 9 => 9 | 31 => 142 | 3 => 3 | 4 => 4 | 0 => 0 | 105 => 254 | 21 => 21 | 5 => 5 | 46 => 196 | 119 => 284 | 139 => 287 | 138 => 286 | 146 => 288 | 51 => 238 | n => n, fun | 1 => 0 | 3 => 4 | 4 => 5 | n => n⟩
theorem Tryz.lays146 : Go.Proofs.Lays.n146 Tryz.prog Tryz.lays146_ren := {
  mixed := by kernel_rfl
  f138 := Tryz.func184.trans (congrArg some (by kernel_rfl))
  f143 := Tryz.func185.trans (congrArg some (by kernel_rfl))
  f146 := Tryz.func95.trans (congrArg some (by kernel_rfl))
  f195 := Tryz.func203.trans (congrArg some (by kernel_rfl))
  f197 := Tryz.func204.trans (congrArg some (by kernel_rfl))
  f217 := Tryz.func221.trans (congrArg some (by kernel_rfl))
  f218 := Tryz.func205.trans (congrArg some (by kernel_rfl))
  f219 := Tryz.func206.trans (congrArg some (by kernel_rfl))
  f221 := Tryz.func157.trans (congrArg some (by kernel_rfl))
  f224 := Tryz.func223.trans (congrArg some (by kernel_rfl))
  f225 := Tryz.func222.trans (congrArg some (by kernel_rfl))
  f260 := Tryz.func220.trans (congrArg some (by kernel_rfl))
  f266 := Tryz.func233.trans (congrArg some (by kernel_rfl))
  f267 := Tryz.func224.trans (congrArg some (by kernel_rfl))
  f268 := Tryz.func183.trans (congrArg some (by kernel_rfl))
  f314 := Tryz.func234.trans (congrArg some (by kernel_rfl))
  t0 := Tryz.underlying0
  a0 := Tryz.isAgg0
  z0 := Tryz.sizeOf0
  v0 := Tryz.zeroValue0
  t3 := Tryz.underlying3
  a3 := Tryz.isAgg3
  z3 := Tryz.sizeOf3
  v3 := Tryz.zeroValue3
  t4 := Tryz.underlying4
  a4 := Tryz.isAgg4
  z4 := Tryz.sizeOf4
  v4 := Tryz.zeroValue4
  t5 := Tryz.underlying5
  a5 := Tryz.isAgg5
  z5 := Tryz.sizeOf5
  v5 := Tryz.zeroValue5
  t9 := Tryz.underlying9
  a9 := Tryz.isAgg9
  z9 := Tryz.sizeOf9
  v9 := Tryz.zeroValue9
  t21 := Tryz.underlying21
  a21 := Tryz.isAgg21
  z21 := Tryz.sizeOf21
  v21 := Tryz.zeroValue21
  t31 := Tryz.underlying142
  a31 := Tryz.isAgg142
  z31 := Tryz.sizeOf142
  v31 := Tryz.zeroValue142
  t46 := Tryz.underlying196
  a46 := Tryz.isAgg196
  z46 := Tryz.sizeOf196
  v46 := Tryz.zeroValue196
  t51 := Tryz.underlying238
  a51 := Tryz.isAgg238
  z51 := Tryz.sizeOf238
  v51 := Tryz.zeroValue238
  t105 := Tryz.underlying254
  a105 := Tryz.isAgg254
  z105 := Tryz.sizeOf254
  v105 := Tryz.zeroValue254
  t119 := Tryz.underlying284
  a119 := Tryz.isAgg284
  z119 := Tryz.sizeOf284
  t138 := Tryz.underlying286
  a138 := Tryz.isAgg286
  z138 := Tryz.sizeOf286
  v138 := Tryz.zeroValue286
  t139 := Tryz.underlying287
  a139 := Tryz.isAgg287
  z139 := Tryz.sizeOf287
  v139 := Tryz.zeroValue287
  t146 := Tryz.underlying288
  a146 := Tryz.isAgg288
  z146 := Tryz.sizeOf288
  v146 := Tryz.zeroValue288
  g1 := by kernel_rfl
  g3 := by kernel_rfl
  g4 := by kernel_rfl }
open Go.RowKit Go.Lib in
/-- strings.Split. (LAID: no walk: one application.) -/
theorem Tryz.strings_Split (s sep : ByteArray) (m : Int) (w : World) (hs : s.size < 4294967281) (hm : w.cell? ⟨0, 0, none⟩ = some (.int .i64 m)) (h1 : 1 ≤ sep.size) :
    Calls Tryz.prog 95 #[.string s, .string sep] w fun e w' =>
      e = .returned (.slice (some ⟨w.heap.size, 0, none⟩) (Lib.countB s sep + 1) (Lib.countB s sep + 1)) ∧ w' = w.alloc (.cells ((Lib.splitB sep 0 (Lib.countB s sep) s).map Value.string).toArray 9) := Any.strings_Split Tryz.lays146 (by kernel_rfl) s sep m w hs hm h1
end Go.Proofs
