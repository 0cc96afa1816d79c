/- What the package-level variables of Go's library hold, as the library contracts ask it, and that it stays where no old block changes. -/
import Derived.Shelf.Strings.Builder1
import Derived.Shelf.Strings.Builder2
import Derived.Shelf.Strings.OnBuilder
import Derived.Shelf.Small.Utf8
import Derived.Shelf.Small.Strs
import Derived.Shelf.Strings.BuilderF
import Derived.Shelf.Strings.BuilderK
import Derived.Shelf.Utf8.RuneCount
import Derived.Shelf.Strings.Builder2Cap
import Derived.Shelf.Strconv.Atoi
import Derived.Shelf.Strconv.Itoa0
import Derived.Shelf.Strconv.Itoa1
import Derived.Shelf.LaysM
import Derived.Shelf.Strconv.Itoa2
import Derived.Shelf.Strconv.Itoa3
import Derived.Shelf.Strconv.AtoiErrFast
import Derived.Shelf.Strconv.ParseIntEmpty
import Derived.Shelf.Strconv.AtoiFail
import Derived.Shelf.Strconv.Clone
import Derived.Shelf.Strconv.SyntaxError
import Derived.Shelf.LaysC
import Derived.Shelf.Strconv.ToError
import Derived.Shelf.Strconv.AtoiErr
import Derived.Shelf.Strconv.ErrVar
import Derived.Shelf.Strconv.Lower
import Derived.Shelf.Strconv.ParseUint10
import Derived.Shelf.Strconv.ParseUint10Empty
import Derived.Shelf.Strconv.ParseUint10Any
import Derived.Shelf.Strconv.ParseInt10
import Derived.Shelf.Strconv.AtoiLong
import Derived.Shelf.Strconv.AtoiInnerAll
import Derived.Shelf.Strconv.RangeError
import Derived.Shelf.Strconv.ToErrorRange
import Derived.Shelf.Strconv.AtoiAll
import Derived.Shelf.Strconv.ErrVarAll
import Derived.Shelf.Strconv.ParseUintEmpty
import Derived.Shelf.Strconv.ParseUint10b64
import Derived.Shelf.Strconv.ParseUint10b32
import Derived.Shelf.Strconv.ParseUint10b16
import Derived.Shelf.Strconv.ParseUint10b8
import Derived.Shelf.Strconv.ParseUint10At
import Derived.Shelf.Strconv.ParseInt10At64
import Derived.Shelf.Strconv.ParseInt10At32
import Derived.Shelf.Strconv.ParseInt10At16
import Derived.Shelf.Strconv.ParseInt10At8
import Derived.Shelf.Strconv.ParseInt10All
import Derived.Shelf.Strings.Search1
import Derived.Shelf.Strings.Search2
import Derived.Shelf.Strings.Search3
import Derived.Shelf.Strings.Cut
import Derived.Shelf.Strings.Count
import Derived.Shelf.Strings.Shaped
import Derived.Shelf.Strings.Split
import Derived.Shelf.Strings.Fields
import Derived.Shelf.Strings.SplitShaped
import Derived.Shelf.Unicode.Latin
import Derived.Shelf.Unicode.Decode
import Derived.Shelf.Strings.Runes
import Derived.Shelf.Strings.RuneCount
import Derived.Shelf.Strings.IndexAny
import Derived.Shelf.Strings.AsciiSet
import Derived.Shelf.Strings.IndexAnyAll
import Derived.Shelf.Strings.Explode
import Derived.Shelf.Unicode.DecodeSlow
import Derived.Shelf.Unicode.DecodeAny
import Derived.Shelf.Unicode.Is16White
import Derived.Shelf.Unicode.IsSpaceAny
import Derived.Shelf.Unicode.Is16WhiteD
import Derived.Shelf.Unicode.IsSpaceAnyD
import Derived.Shelf.Strings.FieldsAny
import Derived.Shelf.Strings.FieldsFuncAny
import Derived.Shelf.Unicode.Is16Any
import Derived.Shelf.Unicode.Is32Any
import Derived.Shelf.Unicode.ExclAny
import Derived.Shelf.Strings.FieldsFuncGrows
import Derived.Shelf.Strings.BuilderCap
import Derived.Shelf.Slices.Turned
import Derived.Shelf.Slices.Equal
import Derived.Shelf.Slices.Empties2
import Derived.Test.YtjeekocidaogoaaGreatDoorProg
import Derived.WalkSmall
import Derived.Below
set_option linter.unusedVariables false
set_option linter.unusedSimpArgs false
set_option maxRecDepth 100000
set_option maxHeartbeats 8000000
namespace Go.Proofs
open Go.Shelf
section
def Tryz.lays156_ren : Go.Shelf.Ren := ⟨fun | 156 => 217 | 165 => 224 | 166 => 225 | 169 => 226 | 240 => 228 | 241 => 229 | 276 => 230 | 277 => 231 | n => n, fun | 31 => 25 | 9 => 9 | 3 => 3 | 4 => 4 | 0 => 0 | 20 => 20 | 72 => 250 | 76 => 140 | 70 => 248 | 37 => 64 | 75 => 139 | 127 => 233 | 164 => 256 | 5 => 5 | 80 => 224 | n => n, fun | n => n⟩
theorem Tryz.lays156 : Go.Proofs.Lays.n156 Tryz.prog Tryz.lays156_ren := {
 mixed := by kernel_rfl
 f156 := Tryz.func217.trans (congrArg some (by kernel_rfl))
 f165 := Tryz.func224.trans (congrArg some (by kernel_rfl))
 f166 := Tryz.func225.trans (congrArg some (by kernel_rfl))
 f169 := Tryz.func226.trans (congrArg some (by kernel_rfl))
 f240 := Tryz.func228.trans (congrArg some (by kernel_rfl))
 f241 := Tryz.func229.trans (congrArg some (by kernel_rfl))
 f276 := Tryz.func230.trans (congrArg some (by kernel_rfl))
 f277 := Tryz.func231.trans (congrArg some (by kernel_rfl))
 t0 := Tryz.underlying0
 a0 := Tryz.isAgg0
 z0 := Tryz.sizeOf0
 v0 := Tryz.zeroValue0
 t3 := Tryz.underlying3
 a3 := Tryz.isAgg3
 z3 := Tryz.sizeOf3
 v3 := Tryz.zeroValue3
 t4 := Tryz.underlying4
 a4 := Tryz.isAgg4
 z4 := Tryz.sizeOf4
 v4 := Tryz.zeroValue4
 t9 := Tryz.underlying9
 a9 := Tryz.isAgg9
 z9 := Tryz.sizeOf9
 v9 := Tryz.zeroValue9
 t20 := Tryz.underlying20
 a20 := Tryz.isAgg20
 z20 := Tryz.sizeOf20
 v20 := Tryz.zeroValue20
 t31 := Tryz.underlying25
 a31 := Tryz.isAgg25
 z31 := Tryz.sizeOf25
 v31 := Tryz.zeroValue25
 t37 := Tryz.underlying64
 a37 := Tryz.isAgg64
 z37 := Tryz.sizeOf64
 v37 := Tryz.zeroValue64
 t70 := Tryz.underlying248
 a70 := Tryz.isAgg248
 z70 := Tryz.sizeOf248
 v70 := Tryz.zeroValue248
 t72 := Tryz.underlying250
 a72 := Tryz.isAgg250
 z72 := Tryz.sizeOf250
 v72 := Tryz.zeroValue250
 t75 := Tryz.underlying139
 a75 := Tryz.isAgg139
 z75 := Tryz.sizeOf139
 v75 := Tryz.zeroValue139
 t76 := Tryz.underlying140
 a76 := Tryz.isAgg140
 z76 := Tryz.sizeOf140
 v76 := Tryz.zeroValue140
 t127 := Tryz.underlying233
 a127 := Tryz.isAgg233
 z127 := Tryz.sizeOf233
 v127 := Tryz.zeroValue233
 t164 := Tryz.underlying256
 a164 := Tryz.isAgg256
 z164 := Tryz.sizeOf256
 v164 := Tryz.zeroValue256 }
theorem Tryz.Builder_Extra_156 : Builder.Extra Tryz.prog Tryz.lays156_ren := {
 sizeBuilder := by kernel_rfl
 liesBuilder := by kernel_rfl
 t5 := Tryz.underlying5
 a5 := Tryz.isAgg5
 z5 := Tryz.sizeOf5
 v5 := Tryz.zeroValue5
 infoByte := by kernel_rfl
 cellsByte := by kernel_rfl
 sizeByte := by kernel_rfl
 neB5 := by decide }
open Go.RowKit in
theorem Tryz.strings_Join (bk o c : Nat) (xs : List ByteArray) (sep : ByteArray) (w : World) (hcells : ∀ (j : Nat) x, xs[j]? = some x → w.cell? ⟨bk, o + j, none⟩ = some (.string x)) (hbk : bk < w.heap.size) (hN : xs.length ≤ 140737488355328) (hcap : xs.length ≤ c) (hlen : (Lib.join (xs.map (·.data.toList)) sep.data.toList).length ≤ 140737488355328) :
  Calls Tryz.prog 217 #[.slice (some ⟨bk, o, none⟩) xs.length c, .string sep] w fun e w' => e = .returned (.string ⟨(Lib.join (xs.map (·.data.toList)) sep.data.toList).toArray⟩) ∧ Below w.heap.size w w' := Any.strings_Join Tryz.lays156 Tryz.Builder_Extra_156 bk o c xs sep w hcells hbk hN hcap hlen
def Tryz.lays119_ren : Go.Shelf.Ren := ⟨fun | 119 => 151 | n => n, fun | 21 => 21 | 4 => 4 | n => n, fun | n => n⟩
theorem Tryz.lays119 : Go.Proofs.Lays.n119 Tryz.prog Tryz.lays119_ren := {
 mixed := by kernel_rfl
 f119 := Tryz.func151.trans (congrArg some (by kernel_rfl))
 t4 := Tryz.underlying4
 a4 := Tryz.isAgg4
 z4 := Tryz.sizeOf4
 v4 := Tryz.zeroValue4
 t21 := Tryz.underlying21
 a21 := Tryz.isAgg21
 z21 := Tryz.sizeOf21
 v21 := Tryz.zeroValue21 }
theorem Tryz.utf8_ValidRune (r : Int) (w : World) :
  Calls Tryz.prog 151 #[.int .i32 r] w fun e w' => e = .returned (.bool (Lib.validRune r)) ∧ w' = w := Any.utf8_ValidRune Tryz.lays119 r w
def Tryz.lays137_ren : Go.Shelf.Ren := ⟨fun | 137 => 150 | 217 => 185 | 266 => 205 | n => n, fun | 9 => 9 | 5 => 5 | 3 => 3 | n => n, fun | n => n⟩
theorem Tryz.lays137 : Go.Proofs.Lays.n137 Tryz.prog Tryz.lays137_ren := {
 mixed := by kernel_rfl
 f137 := Tryz.func150.trans (congrArg some (by kernel_rfl))
 f217 := Tryz.func185.trans (congrArg some (by kernel_rfl))
 f266 := Tryz.func205.trans (congrArg some (by kernel_rfl))
 t3 := Tryz.underlying3
 a3 := Tryz.isAgg3
 z3 := Tryz.sizeOf3
 v3 := Tryz.zeroValue3
 t5 := Tryz.underlying5
 a5 := Tryz.isAgg5
 z5 := Tryz.sizeOf5
 v5 := Tryz.zeroValue5
 t9 := Tryz.underlying9
 a9 := Tryz.isAgg9
 z9 := Tryz.sizeOf9
 v9 := Tryz.zeroValue9 }
open Go.RowKit in
theorem Tryz.strings_IndexByte (s : ByteArray) (c : Int) (w : World) :
  Calls Tryz.prog 150 #[.string s, .int .u8 c] w fun e w' => e = .returned (.int .i64 (Lib.indexByte s.data.toList c.toNat.toUInt8)) ∧ w' = w := Any.strings_IndexByte Tryz.lays137 s c w
def Tryz.lays172_ren : Go.Shelf.Ren := ⟨fun | 172 => 101 | 244 => 130 | 245 => 131 | 247 => 163 | 279 => 164 | 280 => 165 | 281 => 166 | 282 => 167 | 287 => 190 | 316 => 191 | 171 => 102 | 205 => 192 | 321 => 210 | 322 => 211 | 243 => 132 | 246 => 168 | 283 => 193 | 284 => 194 | 285 => 195 | 286 => 196 | 129 => 213 | 317 => 212 | 318 => 214 | 319 => 215 | 320 => 216 | 337 => 222 | 338 => 223 | n => n, fun | 9 => 9 | 3 => 3 | 75 => 139 | 76 => 140 | 4 => 4 | 5 => 5 | 167 => 187 | 37 => 64 | 0 => 0 | 85 => 188 | 2 => 2 | 168 => 190 | 53 => 212 | 175 => 213 | 46 => 107 | 210 => 217 | 127 => 233 | 145 => 236 | 143 => 234 | 21 => 21 | 171 => 219 | 173 => 222 | 212 => 238 | 51 => 174 | 20 => 20 | 213 => 239 | 232 => 251 | 233 => 252 | 80 => 224 | n => n, fun | 15 => 3 | 16 => 4 | 17 => 5 | 18 => 6 | 19 => 7 | n => n⟩
def Tryz.laysM246_ren : Go.Shelf.Ren := ⟨fun | 246 => 168 | 283 => 193 | 284 => 194 | 285 => 195 | 286 => 196 | 129 => 213 | 317 => 212 | 318 => 214 | 319 => 215 | 320 => 216 | 337 => 222 | 338 => 223 | n => n, fun | 2 => 2 | 3 => 3 | 9 => 9 | 4 => 4 | 171 => 219 | 0 => 0 | 53 => 212 | 37 => 64 | 5 => 5 | 173 => 222 | 212 => 238 | 51 => 174 | 20 => 20 | 213 => 239 | 46 => 107 | 232 => 251 | 233 => 252 | n => n, fun | 17 => 5 | 18 => 6 | 19 => 7 | n => n⟩
def Tryz.laysM243_ren : Go.Shelf.Ren := ⟨fun | 243 => 132 | 246 => 168 | 283 => 193 | 284 => 194 | 285 => 195 | 286 => 196 | 129 => 213 | 317 => 212 | 318 => 214 | 319 => 215 | 320 => 216 | 337 => 222 | 338 => 223 | n => n, fun | 3 => 3 | 9 => 9 | 2 => 2 | 4 => 4 | 171 => 219 | 0 => 0 | 53 => 212 | 37 => 64 | 5 => 5 | 173 => 222 | 212 => 238 | 51 => 174 | 20 => 20 | 213 => 239 | 46 => 107 | 232 => 251 | 233 => 252 | n => n, fun | 17 => 5 | 18 => 6 | 19 => 7 | n => n⟩
def Tryz.laysM171_ren : Go.Shelf.Ren := ⟨fun | 171 => 102 | 243 => 132 | 246 => 168 | 283 => 193 | 284 => 194 | 285 => 195 | 286 => 196 | 129 => 213 | 317 => 212 | 318 => 214 | 319 => 215 | 320 => 216 | 337 => 222 | 338 => 223 | n => n, fun | 3 => 3 | 9 => 9 | 2 => 2 | 4 => 4 | 171 => 219 | 0 => 0 | 53 => 212 | 37 => 64 | 5 => 5 | 173 => 222 | 212 => 238 | 51 => 174 | 20 => 20 | 213 => 239 | 46 => 107 | 232 => 251 | 233 => 252 | n => n, fun | 17 => 5 | 18 => 6 | 19 => 7 | n => n⟩
theorem Tryz.laysM171 : Go.Proofs.LaysM.n171 Tryz.prog Tryz.laysM171_ren := {
 mixed := by kernel_rfl
 f129 := Tryz.func213.trans (congrArg some (by kernel_rfl))
 f171 := Tryz.func102.trans (congrArg some (by kernel_rfl))
 f243 := Tryz.func132.trans (congrArg some (by kernel_rfl))
 f246 := Tryz.func168.trans (congrArg some (by kernel_rfl))
 f283 := Tryz.func193.trans (congrArg some (by kernel_rfl))
 f284 := Tryz.func194.trans (congrArg some (by kernel_rfl))
 f285 := Tryz.func195.trans (congrArg some (by kernel_rfl))
 f286 := Tryz.func196.trans (congrArg some (by kernel_rfl))
 f317 := Tryz.func212.trans (congrArg some (by kernel_rfl))
 f318 := Tryz.func214.trans (congrArg some (by kernel_rfl))
 f319 := Tryz.func215.trans (congrArg some (by kernel_rfl))
 f320 := Tryz.func216.trans (congrArg some (by kernel_rfl))
 f337 := Tryz.func222.trans (congrArg some (by kernel_rfl))
 f338 := Tryz.func223.trans (congrArg some (by kernel_rfl))
 t0 := Tryz.underlying0
 a0 := Tryz.isAgg0
 z0 := Tryz.sizeOf0
 v0 := Tryz.zeroValue0
 t2 := Tryz.underlying2
 a2 := Tryz.isAgg2
 z2 := Tryz.sizeOf2
 v2 := Tryz.zeroValue2
 t3 := Tryz.underlying3
 a3 := Tryz.isAgg3
 z3 := Tryz.sizeOf3
 v3 := Tryz.zeroValue3
 t4 := Tryz.underlying4
 a4 := Tryz.isAgg4
 z4 := Tryz.sizeOf4
 v4 := Tryz.zeroValue4
 t5 := Tryz.underlying5
 a5 := Tryz.isAgg5
 z5 := Tryz.sizeOf5
 v5 := Tryz.zeroValue5
 t9 := Tryz.underlying9
 a9 := Tryz.isAgg9
 z9 := Tryz.sizeOf9
 v9 := Tryz.zeroValue9
 t20 := Tryz.underlying20
 a20 := Tryz.isAgg20
 z20 := Tryz.sizeOf20
 v20 := Tryz.zeroValue20
 t37 := Tryz.underlying64
 a37 := Tryz.isAgg64
 z37 := Tryz.sizeOf64
 v37 := Tryz.zeroValue64
 t46 := Tryz.underlying107
 a46 := Tryz.isAgg107
 z46 := Tryz.sizeOf107
 v46 := Tryz.zeroValue107
 t51 := Tryz.underlying174
 a51 := Tryz.isAgg174
 z51 := Tryz.sizeOf174
 v51 := Tryz.zeroValue174
 t53 := Tryz.underlying212
 a53 := Tryz.isAgg212
 z53 := Tryz.sizeOf212
 v53 := Tryz.zeroValue212
 t171 := Tryz.underlying219
 a171 := Tryz.isAgg219
 z171 := Tryz.sizeOf219
 v171 := Tryz.zeroValue219
 t173 := Tryz.underlying222
 a173 := Tryz.isAgg222
 z173 := Tryz.sizeOf222
 v173 := Tryz.zeroValue222
 t212 := Tryz.underlying238
 a212 := Tryz.isAgg238
 z212 := Tryz.sizeOf238
 v212 := Tryz.zeroValue238
 t213 := Tryz.underlying239
 a213 := Tryz.isAgg239
 z213 := Tryz.sizeOf239
 t232 := Tryz.underlying251
 a232 := Tryz.isAgg251
 z232 := Tryz.sizeOf251
 v232 := Tryz.zeroValue251
 t233 := Tryz.underlying252
 a233 := Tryz.isAgg252
 z233 := Tryz.sizeOf252
 v233 := Tryz.zeroValue252
 g17 := by kernel_rfl
 g18 := by kernel_rfl
 g19 := by kernel_rfl
 i0 := by kernel_rfl
 i2 := by kernel_rfl
 i3 := by kernel_rfl
 i4 := by kernel_rfl
 i5 := by kernel_rfl
 i9 := by kernel_rfl
 i20 := by kernel_rfl
 i37 := by kernel_rfl
 i46 := by kernel_rfl
 i51 := by kernel_rfl
 i53 := by kernel_rfl
 i171 := by kernel_rfl
 i173 := by kernel_rfl
 i212 := by kernel_rfl
 i232 := by kernel_rfl
 i233 := by kernel_rfl
 m17 := by kernel_rfl
 m18 := by kernel_rfl
 m19 := by kernel_rfl }
open Go.RowKit Go.Sort Go.Lib in
theorem Tryz.strconv_Itoa (n : Int) (h0 : -9223372036854775808 ≤ n) (h1 : n ≤ 9223372036854775807) (w : World) (htab : Lib.TabIs Tryz.prog w "internal/strconv.uint64pow10" .u64 Lib.pow10Tab) :
  Calls Tryz.prog 102 #[.int .i64 n] w fun e w' => e = .returned (.string ⟨(Lib.itoa n).toArray⟩) ∧ ∃ k os, w' = grow (w.drewN k) os := Any.strconv_Itoa Tryz.laysM171 n h0 h1 w htab
def Tryz.laysC172_ren : Go.Shelf.Ren := ⟨fun | 172 => 101 | 244 => 130 | 245 => 131 | 247 => 163 | 279 => 164 | 280 => 165 | 281 => 166 | 282 => 167 | 287 => 190 | 316 => 191 | 171 => 102 | 205 => 192 | 321 => 210 | 322 => 211 | 243 => 132 | 246 => 168 | 283 => 193 | 284 => 194 | 285 => 195 | 286 => 196 | 129 => 213 | 317 => 212 | 318 => 214 | 319 => 215 | 320 => 216 | 337 => 222 | 338 => 223 | n => n, fun | 9 => 9 | 3 => 3 | 75 => 139 | 76 => 140 | 4 => 4 | 5 => 5 | 167 => 187 | 37 => 64 | 0 => 0 | 85 => 188 | 2 => 2 | 168 => 190 | 53 => 212 | 175 => 213 | 46 => 107 | 210 => 217 | 127 => 233 | 145 => 236 | 143 => 234 | 21 => 21 | 171 => 219 | 173 => 222 | 212 => 238 | 51 => 174 | 20 => 20 | 213 => 239 | 232 => 251 | 233 => 252 | 80 => 224 | n => n, fun | 15 => 3 | 16 => 4 | 17 => 5 | 18 => 6 | 19 => 7 | n => n⟩
theorem Tryz.laysC172 : Go.Proofs.LaysC.n172 Tryz.prog Tryz.laysC172_ren := {
 mixed := by kernel_rfl
 f129 := Tryz.func213.trans (congrArg some (by kernel_rfl))
 f171 := Tryz.func102.trans (congrArg some (by kernel_rfl))
 f172 := Tryz.func101.trans (congrArg some (by kernel_rfl))
 f205 := Tryz.func192.trans (congrArg some (by kernel_rfl))
 f243 := Tryz.func132.trans (congrArg some (by kernel_rfl))
 f244 := Tryz.func130.trans (congrArg some (by kernel_rfl))
 f245 := Tryz.func131.trans (congrArg some (by kernel_rfl))
 f246 := Tryz.func168.trans (congrArg some (by kernel_rfl))
 f247 := Tryz.func163.trans (congrArg some (by kernel_rfl))
 f279 := Tryz.func164.trans (congrArg some (by kernel_rfl))
 f280 := Tryz.func165.trans (congrArg some (by kernel_rfl))
 f281 := Tryz.func166.trans (congrArg some (by kernel_rfl))
 f282 := Tryz.func167.trans (congrArg some (by kernel_rfl))
 f283 := Tryz.func193.trans (congrArg some (by kernel_rfl))
 f284 := Tryz.func194.trans (congrArg some (by kernel_rfl))
 f285 := Tryz.func195.trans (congrArg some (by kernel_rfl))
 f286 := Tryz.func196.trans (congrArg some (by kernel_rfl))
 f287 := Tryz.func190.trans (congrArg some (by kernel_rfl))
 f316 := Tryz.func191.trans (congrArg some (by kernel_rfl))
 f317 := Tryz.func212.trans (congrArg some (by kernel_rfl))
 f318 := Tryz.func214.trans (congrArg some (by kernel_rfl))
 f319 := Tryz.func215.trans (congrArg some (by kernel_rfl))
 f320 := Tryz.func216.trans (congrArg some (by kernel_rfl))
 f321 := Tryz.func210.trans (congrArg some (by kernel_rfl))
 f322 := Tryz.func211.trans (congrArg some (by kernel_rfl))
 f337 := Tryz.func222.trans (congrArg some (by kernel_rfl))
 f338 := Tryz.func223.trans (congrArg some (by kernel_rfl))
 t0 := Tryz.underlying0
 a0 := Tryz.isAgg0
 z0 := Tryz.sizeOf0
 v0 := Tryz.zeroValue0
 t2 := Tryz.underlying2
 a2 := Tryz.isAgg2
 z2 := Tryz.sizeOf2
 v2 := Tryz.zeroValue2
 t3 := Tryz.underlying3
 a3 := Tryz.isAgg3
 z3 := Tryz.sizeOf3
 v3 := Tryz.zeroValue3
 t4 := Tryz.underlying4
 a4 := Tryz.isAgg4
 z4 := Tryz.sizeOf4
 v4 := Tryz.zeroValue4
 t5 := Tryz.underlying5
 a5 := Tryz.isAgg5
 z5 := Tryz.sizeOf5
 v5 := Tryz.zeroValue5
 t9 := Tryz.underlying9
 a9 := Tryz.isAgg9
 z9 := Tryz.sizeOf9
 v9 := Tryz.zeroValue9
 t20 := Tryz.underlying20
 a20 := Tryz.isAgg20
 z20 := Tryz.sizeOf20
 v20 := Tryz.zeroValue20
 t21 := Tryz.underlying21
 a21 := Tryz.isAgg21
 z21 := Tryz.sizeOf21
 v21 := Tryz.zeroValue21
 t37 := Tryz.underlying64
 a37 := Tryz.isAgg64
 z37 := Tryz.sizeOf64
 v37 := Tryz.zeroValue64
 t46 := Tryz.underlying107
 a46 := Tryz.isAgg107
 z46 := Tryz.sizeOf107
 v46 := Tryz.zeroValue107
 t51 := Tryz.underlying174
 a51 := Tryz.isAgg174
 z51 := Tryz.sizeOf174
 v51 := Tryz.zeroValue174
 t53 := Tryz.underlying212
 a53 := Tryz.isAgg212
 z53 := Tryz.sizeOf212
 v53 := Tryz.zeroValue212
 t75 := Tryz.underlying139
 a75 := Tryz.isAgg139
 z75 := Tryz.sizeOf139
 v75 := Tryz.zeroValue139
 t76 := Tryz.underlying140
 a76 := Tryz.isAgg140
 z76 := Tryz.sizeOf140
 v76 := Tryz.zeroValue140
 t85 := Tryz.underlying188
 a85 := Tryz.isAgg188
 z85 := Tryz.sizeOf188
 v85 := Tryz.zeroValue188
 t127 := Tryz.underlying233
 a127 := Tryz.isAgg233
 z127 := Tryz.sizeOf233
 v127 := Tryz.zeroValue233
 t143 := Tryz.underlying234
 a143 := Tryz.isAgg234
 z143 := Tryz.sizeOf234
 v143 := Tryz.zeroValue234
 t145 := Tryz.underlying236
 a145 := Tryz.isAgg236
 z145 := Tryz.sizeOf236
 v145 := Tryz.zeroValue236
 t167 := Tryz.underlying187
 a167 := Tryz.isAgg187
 z167 := Tryz.sizeOf187
 v167 := Tryz.zeroValue187
 t168 := Tryz.underlying190
 a168 := Tryz.isAgg190
 z168 := Tryz.sizeOf190
 v168 := Tryz.zeroValue190
 t171 := Tryz.underlying219
 a171 := Tryz.isAgg219
 z171 := Tryz.sizeOf219
 v171 := Tryz.zeroValue219
 t173 := Tryz.underlying222
 a173 := Tryz.isAgg222
 z173 := Tryz.sizeOf222
 v173 := Tryz.zeroValue222
 t175 := Tryz.underlying213
 a175 := Tryz.isAgg213
 z175 := Tryz.sizeOf213
 v175 := Tryz.zeroValue213
 t210 := Tryz.underlying217
 a210 := Tryz.isAgg217
 z210 := Tryz.sizeOf217
 v210 := Tryz.zeroValue217
 t212 := Tryz.underlying238
 a212 := Tryz.isAgg238
 z212 := Tryz.sizeOf238
 v212 := Tryz.zeroValue238
 t213 := Tryz.underlying239
 a213 := Tryz.isAgg239
 z213 := Tryz.sizeOf239
 t232 := Tryz.underlying251
 a232 := Tryz.isAgg251
 z232 := Tryz.sizeOf251
 v232 := Tryz.zeroValue251
 t233 := Tryz.underlying252
 a233 := Tryz.isAgg252
 z233 := Tryz.sizeOf252
 v233 := Tryz.zeroValue252
 g15 := by kernel_rfl
 g16 := by kernel_rfl
 g17 := by kernel_rfl
 g18 := by kernel_rfl
 g19 := by kernel_rfl
 t80 := Tryz.underlying224
 a80 := Tryz.isAgg224
 z80 := Tryz.sizeOf224
 v80 := Tryz.zeroValue224
 i0 := by kernel_rfl
 i2 := by kernel_rfl
 i3 := by kernel_rfl
 i4 := by kernel_rfl
 i5 := by kernel_rfl
 i9 := by kernel_rfl
 i20 := by kernel_rfl
 i21 := by kernel_rfl
 i37 := by kernel_rfl
 i46 := by kernel_rfl
 i51 := by kernel_rfl
 i53 := by kernel_rfl
 i75 := by kernel_rfl
 i76 := by kernel_rfl
 i80 := by kernel_rfl
 i85 := by kernel_rfl
 i127 := by kernel_rfl
 i143 := by kernel_rfl
 i145 := by kernel_rfl
 i167 := by kernel_rfl
 i168 := by kernel_rfl
 i171 := by kernel_rfl
 i173 := by kernel_rfl
 i175 := by kernel_rfl
 i210 := by kernel_rfl
 i212 := by kernel_rfl
 i232 := by kernel_rfl
 i233 := by kernel_rfl
 m15 := by kernel_rfl
 m16 := by kernel_rfl
 m17 := by kernel_rfl
 m18 := by kernel_rfl
 m19 := by kernel_rfl
 c0 := by kernel_rfl
 c2 := by kernel_rfl
 c3 := by kernel_rfl
 c4 := by kernel_rfl
 c5 := by kernel_rfl
 c9 := by kernel_rfl
 c20 := by kernel_rfl
 c21 := by kernel_rfl
 c37 := by kernel_rfl
 c46 := by kernel_rfl
 c51 := by kernel_rfl
 c53 := by kernel_rfl
 c75 := by kernel_rfl
 c76 := by kernel_rfl
 c80 := by kernel_rfl
 c85 := by kernel_rfl
 c127 := by kernel_rfl
 c143 := by kernel_rfl
 c145 := by kernel_rfl
 c167 := by kernel_rfl
 c168 := by kernel_rfl
 c171 := by kernel_rfl
 c173 := by kernel_rfl
 c175 := by kernel_rfl
 c210 := by kernel_rfl
 c212 := by kernel_rfl
 c213 := by kernel_rfl
 c232 := by kernel_rfl
 c233 := by kernel_rfl }
open Go.RowKit in
theorem Tryz.strconv_Atoi_ok (s : ByteArray) (hmax : s.size ≤ 9223372036854775806) (v : Int) (h : Lib.atoiAll s.data.toList = .ok v) (w : World) :
  Calls Tryz.prog 101 #[.string s] w fun e w' => e = .returned (.tuple #[.int .i64 v, .nilIface]) ∧ (w' = w ∨ ∃ t, w' = Lib.bytesWorld w 5 t) := Any.strconv_Atoi_ok Tryz.laysC172 s hmax v h w
open Go.RowKit in
theorem Tryz.strconv_Atoi_syntax_var (s : ByteArray) (hlim : s.size ≤ 281474976710656) (n0 : ∀ v : Int, Lib.atoiAll s.data.toList = .ok v → False) (n1 : Lib.atoiAll s.data.toList = .range → False) (tp : TypeId) (p : Value) (w : World) (hvar : w.var? Tryz.prog "strconv.ErrSyntax" = some #[.iface tp p]) :
  Calls Tryz.prog 101 #[.string s] w fun e w' => ∃ N, e = .returned (.tuple #[.int .i64 0, .iface 190 (.pointer (some ⟨N, 0, none⟩))]) ∧ w.heap.size ≤ N ∧ w'.heap[N]? = some (.cells #[.string ⟨#[65, 116, 111, 105]⟩, .string s, .iface tp p] 217 (0, 0)) ∧ Below w.heap.size w w' := Any.strconv_Atoi_syntax_var Tryz.laysC172 s hlim (by cases e : Lib.atoiAll s.data.toList with | ok v => exact (n0 v e).elim | range => exact (n1 e).elim | _ => rfl) tp p w hvar
open Go.RowKit in
theorem Tryz.strconv_Atoi_range_var (s : ByteArray) (hlim : s.size ≤ 281474976710656) (h : Lib.atoiAll s.data.toList = .range) (tp : TypeId) (p : Value) (w : World) (hvar : w.var? Tryz.prog "strconv.ErrRange" = some #[.iface tp p]) :
  Calls Tryz.prog 101 #[.string s] w fun e w' => ∃ N, e = .returned (.tuple #[.int .i64 (Lib.atoiSat s.data.toList), .iface 190 (.pointer (some ⟨N, 0, none⟩))]) ∧ w.heap.size ≤ N ∧ w'.heap[N]? = some (.cells #[.string ⟨#[65, 116, 111, 105]⟩, .string s, .iface tp p] 217 (0, 0)) ∧ Below w.heap.size w w' := Any.strconv_Atoi_range_var Tryz.laysC172 s hlim h tp p w hvar
def Tryz.lays219_ren : Go.Shelf.Ren := ⟨fun | 219 => 188 | 217 => 185 | 225 => 153 | 224 => 152 | 267 => 206 | 266 => 205 | 314 => 218 | n => n, fun | 9 => 9 | 3 => 3 | 4 => 4 | 5 => 5 | 46 => 107 | 146 => 242 | 51 => 174 | n => n, fun | 1 => 2 | n => n⟩
def Tryz.lays145_ren : Go.Shelf.Ren := ⟨fun | 145 => 126 | 220 => 158 | 219 => 188 | 217 => 185 | 225 => 153 | 224 => 152 | 267 => 206 | 266 => 205 | 314 => 218 | n => n, fun | 9 => 9 | 4 => 4 | 59 => 158 | 3 => 3 | 5 => 5 | 46 => 107 | 146 => 242 | 51 => 174 | n => n, fun | 1 => 2 | n => n⟩
theorem Tryz.lays145 : Go.Proofs.Lays.n145 Tryz.prog Tryz.lays145_ren := {
 mixed := by kernel_rfl
 f145 := Tryz.func126.trans (congrArg some (by kernel_rfl))
 f217 := Tryz.func185.trans (congrArg some (by kernel_rfl))
 f219 := Tryz.func188.trans (congrArg some (by kernel_rfl))
 f220 := Tryz.func158.trans (congrArg some (by kernel_rfl))
 f224 := Tryz.func152.trans (congrArg some (by kernel_rfl))
 f225 := Tryz.func153.trans (congrArg some (by kernel_rfl))
 f266 := Tryz.func205.trans (congrArg some (by kernel_rfl))
 f267 := Tryz.func206.trans (congrArg some (by kernel_rfl))
 f314 := Tryz.func218.trans (congrArg some (by kernel_rfl))
 t3 := Tryz.underlying3
 a3 := Tryz.isAgg3
 z3 := Tryz.sizeOf3
 v3 := Tryz.zeroValue3
 t4 := Tryz.underlying4
 a4 := Tryz.isAgg4
 z4 := Tryz.sizeOf4
 v4 := Tryz.zeroValue4
 t5 := Tryz.underlying5
 a5 := Tryz.isAgg5
 z5 := Tryz.sizeOf5
 v5 := Tryz.zeroValue5
 t9 := Tryz.underlying9
 a9 := Tryz.isAgg9
 z9 := Tryz.sizeOf9
 v9 := Tryz.zeroValue9
 t46 := Tryz.underlying107
 a46 := Tryz.isAgg107
 z46 := Tryz.sizeOf107
 v46 := Tryz.zeroValue107
 t51 := Tryz.underlying174
 a51 := Tryz.isAgg174
 z51 := Tryz.sizeOf174
 v51 := Tryz.zeroValue174
 t59 := Tryz.underlying158
 a59 := Tryz.isAgg158
 z59 := Tryz.sizeOf158
 v59 := Tryz.zeroValue158
 t146 := Tryz.underlying242
 a146 := Tryz.isAgg242
 z146 := Tryz.sizeOf242
 v146 := Tryz.zeroValue242
 g1 := by kernel_rfl }
open Go.RowKit Go.Lib in
theorem Tryz.strings_Cut (s sep : ByteArray) (m : Int) (w : World) (hs : s.size < 4294967281) (hm : w.cell? ⟨2, 0, none⟩ = some (.int .i64 m)) :
  Calls Tryz.prog 126 #[.string s, .string sep] w fun e w' => e = .returned (.tuple #[.string ⟨(Lib.cut s.data.toList sep.data.toList).1.toArray⟩, .string ⟨(Lib.cut s.data.toList sep.data.toList).2.1.toArray⟩, .bool (Lib.cut s.data.toList sep.data.toList).2.2]) ∧ ∃ n, w' = w.drewN n := Any.strings_Cut Tryz.lays145 s sep m w hs hm
def Tryz.laysM145_ren : Go.Shelf.Ren := ⟨fun | 145 => 126 | 220 => 158 | 219 => 188 | 217 => 185 | 225 => 153 | 224 => 152 | 267 => 206 | 266 => 205 | 314 => 218 | n => n, fun | 9 => 9 | 4 => 4 | 59 => 158 | 3 => 3 | 5 => 5 | 46 => 107 | 146 => 242 | 51 => 174 | n => n, fun | 1 => 2 | n => n⟩
theorem Tryz.laysM145 : Go.Proofs.LaysM.n145 Tryz.prog Tryz.laysM145_ren := {
 mixed := by kernel_rfl
 f145 := Tryz.func126.trans (congrArg some (by kernel_rfl))
 f217 := Tryz.func185.trans (congrArg some (by kernel_rfl))
 f219 := Tryz.func188.trans (congrArg some (by kernel_rfl))
 f220 := Tryz.func158.trans (congrArg some (by kernel_rfl))
 f224 := Tryz.func152.trans (congrArg some (by kernel_rfl))
 f225 := Tryz.func153.trans (congrArg some (by kernel_rfl))
 f266 := Tryz.func205.trans (congrArg some (by kernel_rfl))
 f267 := Tryz.func206.trans (congrArg some (by kernel_rfl))
 f314 := Tryz.func218.trans (congrArg some (by kernel_rfl))
 t3 := Tryz.underlying3
 a3 := Tryz.isAgg3
 z3 := Tryz.sizeOf3
 v3 := Tryz.zeroValue3
 t4 := Tryz.underlying4
 a4 := Tryz.isAgg4
 z4 := Tryz.sizeOf4
 v4 := Tryz.zeroValue4
 t5 := Tryz.underlying5
 a5 := Tryz.isAgg5
 z5 := Tryz.sizeOf5
 v5 := Tryz.zeroValue5
 t9 := Tryz.underlying9
 a9 := Tryz.isAgg9
 z9 := Tryz.sizeOf9
 v9 := Tryz.zeroValue9
 t46 := Tryz.underlying107
 a46 := Tryz.isAgg107
 z46 := Tryz.sizeOf107
 v46 := Tryz.zeroValue107
 t51 := Tryz.underlying174
 a51 := Tryz.isAgg174
 z51 := Tryz.sizeOf174
 v51 := Tryz.zeroValue174
 t59 := Tryz.underlying158
 a59 := Tryz.isAgg158
 z59 := Tryz.sizeOf158
 v59 := Tryz.zeroValue158
 t146 := Tryz.underlying242
 a146 := Tryz.isAgg242
 z146 := Tryz.sizeOf242
 v146 := Tryz.zeroValue242
 g1 := by kernel_rfl
 i3 := by kernel_rfl
 i4 := by kernel_rfl
 i5 := by kernel_rfl
 i9 := by kernel_rfl
 i46 := by kernel_rfl
 i51 := by kernel_rfl
 i59 := by kernel_rfl
 i146 := by kernel_rfl
 m1 := by kernel_rfl
 s1_3 := fun w h => Go.Proofs.cell_of_shapedOpen_int (zero := #[.int .i64 0]) (t := 3) h (of_decide_eq_true (by kernel_rfl)) (by kernel_rfl) rfl (by kernel_rfl) (by kernel_rfl) Tryz.underlying3 }
def Tryz.lays221_ren : Go.Shelf.Ren := ⟨fun | 221 => 189 | 268 => 207 | 138 => 208 | 143 => 209 | 195 => 219 | 197 => 220 | 218 => 221 | 219 => 188 | 260 => 227 | 217 => 185 | 225 => 153 | 224 => 152 | 267 => 206 | 266 => 205 | 314 => 218 | n => n, fun | 9 => 9 | 3 => 3 | 31 => 25 | 4 => 4 | 0 => 0 | 105 => 245 | 21 => 21 | 5 => 5 | 46 => 107 | 119 => 155 | 139 => 255 | 138 => 254 | 146 => 242 | 51 => 174 | n => n, fun | 1 => 2 | 3 => 8 | 4 => 9 | n => n⟩
def Tryz.lays146_ren : Go.Shelf.Ren := ⟨fun | 146 => 159 | 221 => 189 | 268 => 207 | 138 => 208 | 143 => 209 | 195 => 219 | 197 => 220 | 218 => 221 | 219 => 188 | 260 => 227 | 217 => 185 | 225 => 153 | 224 => 152 | 267 => 206 | 266 => 205 | 314 => 218 | n => n, fun | 9 => 9 | 31 => 25 | 3 => 3 | 4 => 4 | 0 => 0 | 105 => 245 | 21 => 21 | 5 => 5 | 46 => 107 | 119 => 155 | 139 => 255 | 138 => 254 | 146 => 242 | 51 => 174 | n => n, fun | 1 => 2 | 3 => 8 | 4 => 9 | n => n⟩
theorem Tryz.lays146 : Go.Proofs.Lays.n146 Tryz.prog Tryz.lays146_ren := {
 mixed := by kernel_rfl
 f138 := Tryz.func208.trans (congrArg some (by kernel_rfl))
 f143 := Tryz.func209.trans (congrArg some (by kernel_rfl))
 f146 := Tryz.func159.trans (congrArg some (by kernel_rfl))
 f195 := Tryz.func219.trans (congrArg some (by kernel_rfl))
 f197 := Tryz.func220.trans (congrArg some (by kernel_rfl))
 f217 := Tryz.func185.trans (congrArg some (by kernel_rfl))
 f218 := Tryz.func221.trans (congrArg some (by kernel_rfl))
 f219 := Tryz.func188.trans (congrArg some (by kernel_rfl))
 f221 := Tryz.func189.trans (congrArg some (by kernel_rfl))
 f224 := Tryz.func152.trans (congrArg some (by kernel_rfl))
 f225 := Tryz.func153.trans (congrArg some (by kernel_rfl))
 f260 := Tryz.func227.trans (congrArg some (by kernel_rfl))
 f266 := Tryz.func205.trans (congrArg some (by kernel_rfl))
 f267 := Tryz.func206.trans (congrArg some (by kernel_rfl))
 f268 := Tryz.func207.trans (congrArg some (by kernel_rfl))
 f314 := Tryz.func218.trans (congrArg some (by kernel_rfl))
 t0 := Tryz.underlying0
 a0 := Tryz.isAgg0
 z0 := Tryz.sizeOf0
 v0 := Tryz.zeroValue0
 t3 := Tryz.underlying3
 a3 := Tryz.isAgg3
 z3 := Tryz.sizeOf3
 v3 := Tryz.zeroValue3
 t4 := Tryz.underlying4
 a4 := Tryz.isAgg4
 z4 := Tryz.sizeOf4
 v4 := Tryz.zeroValue4
 t5 := Tryz.underlying5
 a5 := Tryz.isAgg5
 z5 := Tryz.sizeOf5
 v5 := Tryz.zeroValue5
 t9 := Tryz.underlying9
 a9 := Tryz.isAgg9
 z9 := Tryz.sizeOf9
 v9 := Tryz.zeroValue9
 t21 := Tryz.underlying21
 a21 := Tryz.isAgg21
 z21 := Tryz.sizeOf21
 v21 := Tryz.zeroValue21
 t31 := Tryz.underlying25
 a31 := Tryz.isAgg25
 z31 := Tryz.sizeOf25
 v31 := Tryz.zeroValue25
 t46 := Tryz.underlying107
 a46 := Tryz.isAgg107
 z46 := Tryz.sizeOf107
 v46 := Tryz.zeroValue107
 t51 := Tryz.underlying174
 a51 := Tryz.isAgg174
 z51 := Tryz.sizeOf174
 v51 := Tryz.zeroValue174
 t105 := Tryz.underlying245
 a105 := Tryz.isAgg245
 z105 := Tryz.sizeOf245
 v105 := Tryz.zeroValue245
 t119 := Tryz.underlying155
 a119 := Tryz.isAgg155
 z119 := Tryz.sizeOf155
 t138 := Tryz.underlying254
 a138 := Tryz.isAgg254
 z138 := Tryz.sizeOf254
 v138 := Tryz.zeroValue254
 t139 := Tryz.underlying255
 a139 := Tryz.isAgg255
 z139 := Tryz.sizeOf255
 v139 := Tryz.zeroValue255
 t146 := Tryz.underlying242
 a146 := Tryz.isAgg242
 z146 := Tryz.sizeOf242
 v146 := Tryz.zeroValue242
 g1 := by kernel_rfl
 g3 := by kernel_rfl
 g4 := by kernel_rfl }
open Go.RowKit Go.Lib in
theorem Tryz.strings_Split (s sep : ByteArray) (m : Int) (w : World) (hs : s.size < 4294967281) (hm : w.cell? ⟨2, 0, none⟩ = some (.int .i64 m)) (h1 : 1 ≤ sep.size) :
  Calls Tryz.prog 159 #[.string s, .string sep] w fun e w' =>
   e = .returned (.slice (some ⟨w.heap.size, 0, none⟩) (Lib.countB s sep + 1) (Lib.countB s sep + 1)) ∧ w' = w.alloc (.cells ((Lib.splitB sep 0 (Lib.countB s sep) s).map Value.string).toArray 9) := Any.strings_Split Tryz.lays146 (by kernel_rfl) s sep m w hs hm h1
def Tryz.lays157_ren : Go.Shelf.Ren := ⟨fun | 157 => 98 | 229 => 123 | 199 => 124 | 261 => 154 | 311 => 186 | 312 => 187 | n => n, fun | 9 => 9 | 31 => 25 | 3 => 3 | 5 => 5 | 4 => 4 | 119 => 155 | 0 => 0 | 40 => 132 | 152 => 171 | 21 => 21 | 154 => 173 | 51 => 174 | 141 => 176 | 196 => 202 | 193 => 199 | 198 => 205 | 49 => 203 | 194 => 200 | 201 => 208 | 226 => 229 | 46 => 107 | 227 => 230 | n => n, fun | 0 => 0 | 6 => 1 | n => n⟩
def Tryz.laysM157_ren : Go.Shelf.Ren := ⟨fun | 157 => 98 | 229 => 123 | 199 => 124 | 261 => 154 | 311 => 186 | 312 => 187 | n => n, fun | 9 => 9 | 31 => 25 | 3 => 3 | 5 => 5 | 4 => 4 | 119 => 155 | 0 => 0 | 40 => 132 | 152 => 171 | 21 => 21 | 154 => 173 | 51 => 174 | 141 => 176 | 196 => 202 | 193 => 199 | 198 => 205 | 49 => 203 | 194 => 200 | 201 => 208 | 226 => 229 | 46 => 107 | 227 => 230 | n => n, fun | 0 => 0 | 6 => 1 | n => n⟩
theorem Tryz.laysM157 : Go.Proofs.LaysM.n157 Tryz.prog Tryz.laysM157_ren := {
 mixed := by kernel_rfl
 f157 := Tryz.func98.trans (congrArg some (by kernel_rfl))
 f199 := Tryz.func124.trans (congrArg some (by kernel_rfl))
 f229 := Tryz.func123.trans (congrArg some (by kernel_rfl))
 f261 := Tryz.func154.trans (congrArg some (by kernel_rfl))
 f311 := Tryz.func186.trans (congrArg some (by kernel_rfl))
 f312 := Tryz.func187.trans (congrArg some (by kernel_rfl))
 t0 := Tryz.underlying0
 a0 := Tryz.isAgg0
 z0 := Tryz.sizeOf0
 v0 := Tryz.zeroValue0
 t3 := Tryz.underlying3
 a3 := Tryz.isAgg3
 z3 := Tryz.sizeOf3
 v3 := Tryz.zeroValue3
 t4 := Tryz.underlying4
 a4 := Tryz.isAgg4
 z4 := Tryz.sizeOf4
 v4 := Tryz.zeroValue4
 t5 := Tryz.underlying5
 a5 := Tryz.isAgg5
 z5 := Tryz.sizeOf5
 v5 := Tryz.zeroValue5
 t9 := Tryz.underlying9
 a9 := Tryz.isAgg9
 z9 := Tryz.sizeOf9
 v9 := Tryz.zeroValue9
 t21 := Tryz.underlying21
 a21 := Tryz.isAgg21
 z21 := Tryz.sizeOf21
 v21 := Tryz.zeroValue21
 t31 := Tryz.underlying25
 a31 := Tryz.isAgg25
 z31 := Tryz.sizeOf25
 v31 := Tryz.zeroValue25
 t40 := Tryz.underlying132
 a40 := Tryz.isAgg132
 z40 := Tryz.sizeOf132
 v40 := Tryz.zeroValue132
 t46 := Tryz.underlying107
 a46 := Tryz.isAgg107
 z46 := Tryz.sizeOf107
 v46 := Tryz.zeroValue107
 t49 := Tryz.underlying203
 a49 := Tryz.isAgg203
 z49 := Tryz.sizeOf203
 v49 := Tryz.zeroValue203
 t51 := Tryz.underlying174
 a51 := Tryz.isAgg174
 z51 := Tryz.sizeOf174
 v51 := Tryz.zeroValue174
 t119 := Tryz.underlying155
 a119 := Tryz.isAgg155
 z119 := Tryz.sizeOf155
 t141 := Tryz.underlying176
 a141 := Tryz.isAgg176
 z141 := Tryz.sizeOf176
 v141 := Tryz.zeroValue176
 t152 := Tryz.underlying171
 a152 := Tryz.isAgg171
 z152 := Tryz.sizeOf171
 v152 := Tryz.zeroValue171
 t154 := Tryz.underlying173
 a154 := Tryz.isAgg173
 z154 := Tryz.sizeOf173
 v154 := Tryz.zeroValue173
 t193 := Tryz.underlying199
 a193 := Tryz.isAgg199
 z193 := Tryz.sizeOf199
 v193 := Tryz.zeroValue199
 t194 := Tryz.underlying200
 a194 := Tryz.isAgg200
 z194 := Tryz.sizeOf200
 v194 := Tryz.zeroValue200
 t196 := Tryz.underlying202
 a196 := Tryz.isAgg202
 z196 := Tryz.sizeOf202
 v196 := Tryz.zeroValue202
 t198 := Tryz.underlying205
 a198 := Tryz.isAgg205
 z198 := Tryz.sizeOf205
 v198 := Tryz.zeroValue205
 t201 := Tryz.underlying208
 a201 := Tryz.isAgg208
 z201 := Tryz.sizeOf208
 v201 := Tryz.zeroValue208
 t226 := Tryz.underlying229
 a226 := Tryz.isAgg229
 z226 := Tryz.sizeOf229
 v226 := Tryz.zeroValue229
 t227 := Tryz.underlying230
 a227 := Tryz.isAgg230
 z227 := Tryz.sizeOf230
 v227 := Tryz.zeroValue230
 g0 := by kernel_rfl
 g6 := by kernel_rfl
 i0 := by kernel_rfl
 i3 := by kernel_rfl
 i4 := by kernel_rfl
 i5 := by kernel_rfl
 i9 := by kernel_rfl
 i21 := by kernel_rfl
 i31 := by kernel_rfl
 i40 := by kernel_rfl
 i46 := by kernel_rfl
 i49 := by kernel_rfl
 i51 := by kernel_rfl
 i141 := by kernel_rfl
 i152 := by kernel_rfl
 i154 := by kernel_rfl
 i193 := by kernel_rfl
 i194 := by kernel_rfl
 i196 := by kernel_rfl
 i198 := by kernel_rfl
 i201 := by kernel_rfl
 i226 := by kernel_rfl
 i227 := by kernel_rfl
 m0 := by kernel_rfl
 m6 := by kernel_rfl }
open Go.RowKit Go.Lib in
theorem Tryz.strings_Fields_laid (s : ByteArray) (w : World) (hs : s.size < 4294967281) (hascii : ∀ (j : Nat) b, s.data.toList[j]? = some b → b.toNat < 128) (htab : Lib.TabIs Tryz.prog w "strings.asciiSpace" .u8 Lib.asciiSpaceTab) :
  Calls Tryz.prog 98 #[.string s] w fun e w' =>
   e = .returned (.slice (some ⟨w.heap.size, 0, none⟩) (Lib.fields s.data.toList).length (Lib.fields s.data.toList).length) ∧ w' = w.alloc (.cells ((Lib.fields s.data.toList).map fun l => Value.string ⟨l.toArray⟩).toArray 9) := Any.strings_Fields_laid Tryz.laysM157 s w hs hascii htab
def Tryz.lays151_ren : Go.Shelf.Ren := ⟨fun | 151 => 92 | 152 => 121 | 137 => 150 | 119 => 151 | 224 => 152 | 225 => 153 | 217 => 185 | 266 => 205 | n => n, fun | 9 => 9 | 21 => 21 | 4 => 4 | 3 => 3 | 5 => 5 | 0 => 0 | 46 => 107 | n => n, fun | n => n⟩
theorem Tryz.lays151 : Go.Proofs.Lays.n151 Tryz.prog Tryz.lays151_ren := {
 mixed := by kernel_rfl
 f119 := Tryz.func151.trans (congrArg some (by kernel_rfl))
 f137 := Tryz.func150.trans (congrArg some (by kernel_rfl))
 f151 := Tryz.func92.trans (congrArg some (by kernel_rfl))
 f152 := Tryz.func121.trans (congrArg some (by kernel_rfl))
 f217 := Tryz.func185.trans (congrArg some (by kernel_rfl))
 f224 := Tryz.func152.trans (congrArg some (by kernel_rfl))
 f225 := Tryz.func153.trans (congrArg some (by kernel_rfl))
 f266 := Tryz.func205.trans (congrArg some (by kernel_rfl))
 t0 := Tryz.underlying0
 a0 := Tryz.isAgg0
 z0 := Tryz.sizeOf0
 v0 := Tryz.zeroValue0
 t3 := Tryz.underlying3
 a3 := Tryz.isAgg3
 z3 := Tryz.sizeOf3
 v3 := Tryz.zeroValue3
 t4 := Tryz.underlying4
 a4 := Tryz.isAgg4
 z4 := Tryz.sizeOf4
 v4 := Tryz.zeroValue4
 t5 := Tryz.underlying5
 a5 := Tryz.isAgg5
 z5 := Tryz.sizeOf5
 v5 := Tryz.zeroValue5
 t9 := Tryz.underlying9
 a9 := Tryz.isAgg9
 z9 := Tryz.sizeOf9
 v9 := Tryz.zeroValue9
 t21 := Tryz.underlying21
 a21 := Tryz.isAgg21
 z21 := Tryz.sizeOf21
 v21 := Tryz.zeroValue21
 t46 := Tryz.underlying107
 a46 := Tryz.isAgg107
 z46 := Tryz.sizeOf107
 v46 := Tryz.zeroValue107 }
open Go.RowKit Go.Lib in
theorem Tryz.strings_ContainsRune_ascii (s : ByteArray) (r : Int) (w : World) (h0 : 0 ≤ r) (h1 : r < 128) :
  Calls Tryz.prog 92 #[.string s, .int .i32 r] w fun e w' => e = .returned (.bool (decide (0 ≤ Lib.indexByte s.data.toList r.toNat.toUInt8))) ∧ w' = w := Any.strings_ContainsRune_ascii Tryz.lays151 s r w h0 h1
def Tryz.lays150_ren : Go.Shelf.Ren := ⟨fun | 150 => 99 | 153 => 125 | 152 => 121 | 226 => 155 | 227 => 156 | 228 => 157 | 137 => 150 | 119 => 151 | 224 => 152 | 225 => 153 | 217 => 185 | 266 => 205 | n => n, fun | 9 => 9 | 4 => 4 | 3 => 3 | 5 => 5 | 21 => 21 | 117 => 180 | 116 => 179 | 0 => 0 | 46 => 107 | 124 => 210 | n => n, fun | n => n⟩
theorem Tryz.lays150 : Go.Proofs.Lays.n150 Tryz.prog Tryz.lays150_ren := {
 mixed := by kernel_rfl
 f119 := Tryz.func151.trans (congrArg some (by kernel_rfl))
 f137 := Tryz.func150.trans (congrArg some (by kernel_rfl))
 f150 := Tryz.func99.trans (congrArg some (by kernel_rfl))
 f152 := Tryz.func121.trans (congrArg some (by kernel_rfl))
 f153 := Tryz.func125.trans (congrArg some (by kernel_rfl))
 f217 := Tryz.func185.trans (congrArg some (by kernel_rfl))
 f224 := Tryz.func152.trans (congrArg some (by kernel_rfl))
 f225 := Tryz.func153.trans (congrArg some (by kernel_rfl))
 f226 := Tryz.func155.trans (congrArg some (by kernel_rfl))
 f227 := Tryz.func156.trans (congrArg some (by kernel_rfl))
 f228 := Tryz.func157.trans (congrArg some (by kernel_rfl))
 f266 := Tryz.func205.trans (congrArg some (by kernel_rfl))
 t0 := Tryz.underlying0
 a0 := Tryz.isAgg0
 z0 := Tryz.sizeOf0
 v0 := Tryz.zeroValue0
 t3 := Tryz.underlying3
 a3 := Tryz.isAgg3
 z3 := Tryz.sizeOf3
 v3 := Tryz.zeroValue3
 t4 := Tryz.underlying4
 a4 := Tryz.isAgg4
 z4 := Tryz.sizeOf4
 v4 := Tryz.zeroValue4
 t5 := Tryz.underlying5
 a5 := Tryz.isAgg5
 z5 := Tryz.sizeOf5
 v5 := Tryz.zeroValue5
 t9 := Tryz.underlying9
 a9 := Tryz.isAgg9
 z9 := Tryz.sizeOf9
 v9 := Tryz.zeroValue9
 t21 := Tryz.underlying21
 a21 := Tryz.isAgg21
 z21 := Tryz.sizeOf21
 v21 := Tryz.zeroValue21
 t46 := Tryz.underlying107
 a46 := Tryz.isAgg107
 z46 := Tryz.sizeOf107
 v46 := Tryz.zeroValue107
 t116 := Tryz.underlying179
 a116 := Tryz.isAgg179
 z116 := Tryz.sizeOf179
 t117 := Tryz.underlying180
 a117 := Tryz.isAgg180
 z117 := Tryz.sizeOf180
 v117 := Tryz.zeroValue180
 t124 := Tryz.underlying210
 a124 := Tryz.isAgg210
 z124 := Tryz.sizeOf210
 v124 := Tryz.zeroValue210 }
open Go.RowKit Go.Lib in
theorem Tryz.strings_ContainsAny_laid (s chars : ByteArray) (w : World) (hs : s.size < 4294967281) (hcs : chars.size < 4294967281) (has : ∀ (j : Nat) b, s.data.toList[j]? = some b → b.toNat < 128) (hac : ∀ (j : Nat) b, chars.data.toList[j]? = some b → b.toNat < 128) :
  Calls Tryz.prog 99 #[.string s, .string chars] w fun e w' => e = .returned (.bool (Lib.containsAny s.data.toList chars.data.toList)) ∧ Below w.heap.size w w' := Any.strings_ContainsAny_laid Tryz.lays150 (by kernel_rfl) s chars w hs hcs has hac
end
end Go.Proofs
namespace Go.Proofs.YtjeekocidaogoaaGreatDoor.Hand
open Go.RowKit
section
structure Inv (w : World) : Prop where
 space : Lib.TabIs Tryz.prog w "strings.asciiSpace" .u8 Lib.asciiSpaceTab
 pow10 : Lib.TabIs Tryz.prog w "internal/strconv.uint64pow10" .u64 Lib.pow10Tab
 errS : ∃ tp p, w.var? Tryz.prog "strconv.ErrSyntax" = some #[.iface tp p]
 errR : ∃ tp p, w.var? Tryz.prog "strconv.ErrRange" = some #[.iface tp p]
 maxLen : ∃ m, w.cell? ⟨2, 0, none⟩ = some (.int .i64 m)
theorem var_lt {w : World} {n : String} {g : Nat} {cs : Array Value} (hg : Tryz.prog.globalNamed n = some g) (hv : w.var? Tryz.prog n = some cs) : g < w.heap.size := by
 unfold World.var? at hv
 simp only [hg, Option.bind_some] at hv
 cases hb : w.heap[g]? with
 | none => rw [hb] at hv; simp at hv
 | some o => exact (Array.getElem?_eq_some_iff.1 hb).1
theorem ziq {w w' : World} {n : String} {g : Nat} {cs : Array Value} (hg : Tryz.prog.globalNamed n = some g) (hb : Below w.heap.size w w') (hv : w.var? Tryz.prog n = some cs) : w'.var? Tryz.prog n = some cs :=
 var?_below hb hg (var_lt hg hv) hv
theorem Inv.below {w w' : World} (h : Inv w) (hb : Below w.heap.size w w') : Inv w' where
 space := ziq (g := 0) (by kernel_rfl) hb h.space
 pow10 := ziq (g := 5) (by kernel_rfl) hb h.pow10
 errS := let ⟨tp, p, hp⟩ := h.errS; ⟨tp, p, ziq (g := 3) (by kernel_rfl) hb hp⟩
 errR := let ⟨tp, p, hp⟩ := h.errR; ⟨tp, p, ziq (g := 4) (by kernel_rfl) hb hp⟩
 maxLen := let ⟨m, hm⟩ := h.maxLen; ⟨m, by rw [hb.cell (World.block_lt_of_cell? _ _ hm)]; exact hm⟩
end
end Go.Proofs.YtjeekocidaogoaaGreatDoor.Hand
