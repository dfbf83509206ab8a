import Derived.Shelf.Strings.Builder1
import Derived.Shelf.Strings.Builder2
import Derived.Shelf.Small.Utf8
import Derived.Shelf.Small.Bits
import Derived.Shelf.Small.Strs
import Derived.Shelf.Strings.BuilderF
import Derived.Shelf.Strings.BuilderK
import Derived.Shelf.Strings.BuilderRune
import Derived.Shelf.Utf8.RuneCount
import Derived.Shelf.Strings.Builder2Cap
import Derived.Shelf.Strconv.Atoi
import Derived.Shelf.Strconv.Itoa0
import Derived.Shelf.Strconv.Itoa1
import Derived.Shelf.LaysM
import Derived.Shelf.Strconv.Itoa2
import Derived.Shelf.Strconv.Itoa3
import Derived.Shelf.Strconv.Itoa4
import Derived.Shelf.Strconv.AtoiErrFast
import Derived.Shelf.Strconv.ParseIntEmpty
import Derived.Shelf.Strconv.Clone
import Derived.Shelf.Strconv.Lower
import Derived.Shelf.Strconv.ParseUint10Empty
import Derived.Shelf.Strconv.ParseUintEmpty
import Derived.Shelf.Strings.Search1
import Derived.Shelf.Strings.Search2
import Derived.Shelf.Strings.Search3
import Derived.Shelf.Strings.Cut
import Derived.Shelf.Strings.Count
import Derived.Shelf.Strings.Shaped
import Derived.Shelf.Strconv.AppendUint10
import Derived.Shelf.Strings.Prefix
import Derived.Shelf.Strings.Split
import Derived.Shelf.Strings.Fields
import Derived.Shelf.Strings.Replace
import Derived.Shelf.Strings.SplitShaped
import Derived.Shelf.Unicode.Latin
import Derived.Shelf.Unicode.Decode
import Derived.Shelf.Strings.RuneCount
import Derived.Shelf.Bits.Mul64
import Derived.Shelf.Strings.Repeat
import Derived.Shelf.Unicode.DecodeSlow
import Derived.Shelf.Unicode.DecodeAny
import Derived.Shelf.Unicode.Is16White
import Derived.Shelf.Unicode.IsSpaceAny
import Derived.Shelf.Unicode.Is16Any
import Derived.Shelf.Unicode.Is32Any
import Derived.Shelf.Unicode.ExclAny
import Derived.Test.YtpjcdbjablijkaaGreatDoorProg
import Derived.Test.YtpjcdbjablijkaaGreatDoorTac
import Derived.Test.YtpjcdbjablijkaaGreatDoorZwN
import Derived.Lib.OwnBridge
import Derived.Laws.AppendOwnNone
import Derived.Lib.Replace
import Derived.Lib.IndexMore
import Derived.Lib.Atoi
import Derived.KernelRfl
/-
  DERIVED: THE SHELF's CONTRACTS AT THIS DUMP, IN PLAIN WORDS (tools/lay-plain.mjs out of 'YtpjcdbjablijkaaGreatDoorShfA.lean', which tools/lay-shelf.mjs wrote): THE SAME DECLARATIONS UNDER THE SAME NAMES: 'import', 'namespace', 'open', 'def', 'theorem' AND NOTHING ELSE: no command of the shelf's: FOR A HAND-IN. Each laying: the table of numbers ('.._ren') and one theorem, a field a fact of the dump's own or the kernel's comparison; each contract: ONE APPLICATION.
-/
namespace Go.Proofs
open Go.Shelf
def Tryz.lays172_ren : Go.Shelf.Ren := ⟨fun | 172 => 20 | 244 => 48 | 245 => 49 | 247 => 89 | 279 => 90 | 280 => 91 | 281 => 92 | 282 => 93 | 287 => 144 | 316 => 145 | 171 => 21 | 205 => 146 | 321 => 180 | 322 => 198 | 243 => 50 | 246 => 94 | 283 => 147 | 284 => 136 | 285 => 148 | 286 => 149 | 129 => 133 | 317 => 137 | 318 => 189 | 319 => 199 | 320 => 200 | 337 => 215 | 338 => 216 | n => n, fun | 9 => 9 | 3 => 3 | 75 => 37 | 76 => 56 | 4 => 4 | 5 => 5 | 167 => 136 | 37 => 88 | 0 => 0 | 85 => 137 | 2 => 2 | 168 => 139 | 53 => 22 | 175 => 198 | 46 => 51 | 210 => 201 | 127 => 128 | 145 => 261 | 143 => 259 | 21 => 21 | 171 => 187 | 173 => 204 | 212 => 254 | 51 => 142 | 20 => 20 | 213 => 262 | 232 => 181 | 233 => 293 | 80 => 98 | n => n, fun | 15 => 7 | 16 => 8 | 17 => 9 | 18 => 13 | 19 => 14 | n => n⟩
theorem Tryz.lays172 : Go.Proofs.Lays.n172 Tryz.prog Tryz.lays172_ren := {
  mixed := by kernel_rfl
  f129 := Tryz.func133.trans (congrArg some (by kernel_rfl))
  f171 := Tryz.func21.trans (congrArg some (by kernel_rfl))
  f172 := Tryz.func20.trans (congrArg some (by kernel_rfl))
  f205 := Tryz.func146.trans (congrArg some (by kernel_rfl))
  f243 := Tryz.func50.trans (congrArg some (by kernel_rfl))
  f244 := Tryz.func48.trans (congrArg some (by kernel_rfl))
  f245 := Tryz.func49.trans (congrArg some (by kernel_rfl))
  f246 := Tryz.func94.trans (congrArg some (by kernel_rfl))
  f247 := Tryz.func89.trans (congrArg some (by kernel_rfl))
  f279 := Tryz.func90.trans (congrArg some (by kernel_rfl))
  f280 := Tryz.func91.trans (congrArg some (by kernel_rfl))
  f281 := Tryz.func92.trans (congrArg some (by kernel_rfl))
  f282 := Tryz.func93.trans (congrArg some (by kernel_rfl))
  f283 := Tryz.func147.trans (congrArg some (by kernel_rfl))
  f284 := Tryz.func136.trans (congrArg some (by kernel_rfl))
  f285 := Tryz.func148.trans (congrArg some (by kernel_rfl))
  f286 := Tryz.func149.trans (congrArg some (by kernel_rfl))
  f287 := Tryz.func144.trans (congrArg some (by kernel_rfl))
  f316 := Tryz.func145.trans (congrArg some (by kernel_rfl))
  f317 := Tryz.func137.trans (congrArg some (by kernel_rfl))
  f318 := Tryz.func189.trans (congrArg some (by kernel_rfl))
  f319 := Tryz.func199.trans (congrArg some (by kernel_rfl))
  f320 := Tryz.func200.trans (congrArg some (by kernel_rfl))
  f321 := Tryz.func180.trans (congrArg some (by kernel_rfl))
  f322 := Tryz.func198.trans (congrArg some (by kernel_rfl))
  f337 := Tryz.func215.trans (congrArg some (by kernel_rfl))
  f338 := Tryz.func216.trans (congrArg some (by kernel_rfl))
  t0 := Tryz.underlying0
  a0 := Tryz.isAgg0
  z0 := Tryz.sizeOf0
  v0 := Tryz.zeroValue0
  t2 := Tryz.underlying2
  a2 := Tryz.isAgg2
  z2 := Tryz.sizeOf2
  v2 := Tryz.zeroValue2
  t3 := Tryz.underlying3
  a3 := Tryz.isAgg3
  z3 := Tryz.sizeOf3
  v3 := Tryz.zeroValue3
  t4 := Tryz.underlying4
  a4 := Tryz.isAgg4
  z4 := Tryz.sizeOf4
  v4 := Tryz.zeroValue4
  t5 := Tryz.underlying5
  a5 := Tryz.isAgg5
  z5 := Tryz.sizeOf5
  v5 := Tryz.zeroValue5
  t9 := Tryz.underlying9
  a9 := Tryz.isAgg9
  z9 := Tryz.sizeOf9
  v9 := Tryz.zeroValue9
  t20 := Tryz.underlying20
  a20 := Tryz.isAgg20
  z20 := Tryz.sizeOf20
  v20 := Tryz.zeroValue20
  t21 := Tryz.underlying21
  a21 := Tryz.isAgg21
  z21 := Tryz.sizeOf21
  v21 := Tryz.zeroValue21
  t37 := Tryz.underlying88
  a37 := Tryz.isAgg88
  z37 := Tryz.sizeOf88
  v37 := Tryz.zeroValue88
  t46 := Tryz.underlying51
  a46 := Tryz.isAgg51
  z46 := Tryz.sizeOf51
  v46 := Tryz.zeroValue51
  t51 := Tryz.underlying142
  a51 := Tryz.isAgg142
  z51 := Tryz.sizeOf142
  v51 := Tryz.zeroValue142
  t53 := Tryz.underlying22
  a53 := Tryz.isAgg22
  z53 := Tryz.sizeOf22
  v53 := Tryz.zeroValue22
  t75 := Tryz.underlying37
  a75 := Tryz.isAgg37
  z75 := Tryz.sizeOf37
  v75 := Tryz.zeroValue37
  t76 := Tryz.underlying56
  a76 := Tryz.isAgg56
  z76 := Tryz.sizeOf56
  v76 := Tryz.zeroValue56
  t85 := Tryz.underlying137
  a85 := Tryz.isAgg137
  z85 := Tryz.sizeOf137
  v85 := Tryz.zeroValue137
  t127 := Tryz.underlying128
  a127 := Tryz.isAgg128
  z127 := Tryz.sizeOf128
  v127 := Tryz.zeroValue128
  t143 := Tryz.underlying259
  a143 := Tryz.isAgg259
  z143 := Tryz.sizeOf259
  v143 := Tryz.zeroValue259
  t145 := Tryz.underlying261
  a145 := Tryz.isAgg261
  z145 := Tryz.sizeOf261
  v145 := Tryz.zeroValue261
  t167 := Tryz.underlying136
  a167 := Tryz.isAgg136
  z167 := Tryz.sizeOf136
  v167 := Tryz.zeroValue136
  t168 := Tryz.underlying139
  a168 := Tryz.isAgg139
  z168 := Tryz.sizeOf139
  v168 := Tryz.zeroValue139
  t171 := Tryz.underlying187
  a171 := Tryz.isAgg187
  z171 := Tryz.sizeOf187
  v171 := Tryz.zeroValue187
  t173 := Tryz.underlying204
  a173 := Tryz.isAgg204
  z173 := Tryz.sizeOf204
  v173 := Tryz.zeroValue204
  t175 := Tryz.underlying198
  a175 := Tryz.isAgg198
  z175 := Tryz.sizeOf198
  v175 := Tryz.zeroValue198
  t210 := Tryz.underlying201
  a210 := Tryz.isAgg201
  z210 := Tryz.sizeOf201
  v210 := Tryz.zeroValue201
  t212 := Tryz.underlying254
  a212 := Tryz.isAgg254
  z212 := Tryz.sizeOf254
  v212 := Tryz.zeroValue254
  t213 := Tryz.underlying262
  a213 := Tryz.isAgg262
  z213 := Tryz.sizeOf262
  t232 := Tryz.underlying181
  a232 := Tryz.isAgg181
  z232 := Tryz.sizeOf181
  v232 := Tryz.zeroValue181
  t233 := Tryz.underlying293
  a233 := Tryz.isAgg293
  z233 := Tryz.sizeOf293
  v233 := Tryz.zeroValue293
  g15 := by kernel_rfl
  g16 := by kernel_rfl
  g17 := by kernel_rfl
  g18 := by kernel_rfl
  g19 := by kernel_rfl }
open Go.RowKit in
/-- strconv.Atoi: "Atoi is equivalent to ParseInt(s, 10, 0), converted to type int.": AT A DECIMAL NUMERAL OF AT MOST 18 BYTES: its value, and a nil error. The world behind the call: the one new row that the library's '[]byte(s)' lays. (LAID: no walk: one application.) -/
theorem Tryz.strconv_Atoi (s : ByteArray) (n : Int) (hl : s.size ≤ 18) (h : Lib.atoi s.data.toList = some n) (w : World) :
    Calls Tryz.prog 20 #[.string s] w fun e w' => e = .returned (.tuple #[.int .i64 n, .nilIface]) ∧ ∃ t, w' = Lib.bytesWorld w 5 t := Any.strconv_Atoi Tryz.lays172 s n hl h w
def Tryz.laysM284_ren : Go.Shelf.Ren := ⟨fun | 284 => 136 | 129 => 133 | 317 => 137 | 318 => 189 | n => n, fun | 53 => 22 | 3 => 3 | 212 => 254 | 0 => 0 | 4 => 4 | 46 => 51 | 5 => 5 | 9 => 9 | n => n, fun | 17 => 9 | n => n⟩
theorem Tryz.laysM284 : Go.Proofs.LaysM.n284 Tryz.prog Tryz.laysM284_ren := {
  mixed := by kernel_rfl
  f129 := Tryz.func133.trans (congrArg some (by kernel_rfl))
  f284 := Tryz.func136.trans (congrArg some (by kernel_rfl))
  f317 := Tryz.func137.trans (congrArg some (by kernel_rfl))
  f318 := Tryz.func189.trans (congrArg some (by kernel_rfl))
  t0 := Tryz.underlying0
  a0 := Tryz.isAgg0
  z0 := Tryz.sizeOf0
  v0 := Tryz.zeroValue0
  t3 := Tryz.underlying3
  a3 := Tryz.isAgg3
  z3 := Tryz.sizeOf3
  v3 := Tryz.zeroValue3
  t4 := Tryz.underlying4
  a4 := Tryz.isAgg4
  z4 := Tryz.sizeOf4
  v4 := Tryz.zeroValue4
  t5 := Tryz.underlying5
  a5 := Tryz.isAgg5
  z5 := Tryz.sizeOf5
  v5 := Tryz.zeroValue5
  t9 := Tryz.underlying9
  a9 := Tryz.isAgg9
  z9 := Tryz.sizeOf9
  v9 := Tryz.zeroValue9
  t46 := Tryz.underlying51
  a46 := Tryz.isAgg51
  z46 := Tryz.sizeOf51
  v46 := Tryz.zeroValue51
  t53 := Tryz.underlying22
  a53 := Tryz.isAgg22
  z53 := Tryz.sizeOf22
  v53 := Tryz.zeroValue22
  t212 := Tryz.underlying254
  a212 := Tryz.isAgg254
  z212 := Tryz.sizeOf254
  v212 := Tryz.zeroValue254
  g17 := by kernel_rfl
  i0 := by kernel_rfl
  i3 := by kernel_rfl
  i4 := by kernel_rfl
  i5 := by kernel_rfl
  i9 := by kernel_rfl
  i46 := by kernel_rfl
  i53 := by kernel_rfl
  i212 := by kernel_rfl
  m17 := by kernel_rfl }
open Go.Lib in
/-- internal/strconv.numDigits, at a d that is not 0: THE NUMBER OF d's DECIMAL DIGITS. The world is as it was. (LAID: no walk: one application.) -/
theorem Tryz.internal_strconv_numDigits (u : Nat) (h1 : 1 ≤ u) (h2 : u < 18446744073709551616) (w : World) (htab : Lib.TabIs Tryz.prog w "internal/strconv.uint64pow10" .u64 Lib.pow10Tab) :
    Calls Tryz.prog 136 #[.int .u64 u] w fun e w' => e = .returned (.int .i64 (Lib.nDigits u)) ∧ w' = w := Any.internal_strconv_numDigits Tryz.laysM284 u h1 h2 w htab
def Tryz.lays285_ren : Go.Shelf.Ren := ⟨fun | 285 => 148 | n => n, fun | 37 => 88 | 53 => 22 | 3 => 3 | 4 => 4 | 51 => 142 | 9 => 9 | 5 => 5 | 0 => 0 | n => n, fun | n => n⟩
theorem Tryz.lays285 : Go.Proofs.Lays.n285 Tryz.prog Tryz.lays285_ren := {
  mixed := by kernel_rfl
  f285 := Tryz.func148.trans (congrArg some (by kernel_rfl))
  t0 := Tryz.underlying0
  a0 := Tryz.isAgg0
  z0 := Tryz.sizeOf0
  v0 := Tryz.zeroValue0
  t3 := Tryz.underlying3
  a3 := Tryz.isAgg3
  z3 := Tryz.sizeOf3
  v3 := Tryz.zeroValue3
  t4 := Tryz.underlying4
  a4 := Tryz.isAgg4
  z4 := Tryz.sizeOf4
  v4 := Tryz.zeroValue4
  t5 := Tryz.underlying5
  a5 := Tryz.isAgg5
  z5 := Tryz.sizeOf5
  v5 := Tryz.zeroValue5
  t9 := Tryz.underlying9
  a9 := Tryz.isAgg9
  z9 := Tryz.sizeOf9
  v9 := Tryz.zeroValue9
  t37 := Tryz.underlying88
  a37 := Tryz.isAgg88
  z37 := Tryz.sizeOf88
  v37 := Tryz.zeroValue88
  t51 := Tryz.underlying142
  a51 := Tryz.isAgg142
  z51 := Tryz.sizeOf142
  v51 := Tryz.zeroValue142
  t53 := Tryz.underlying22
  a53 := Tryz.isAgg22
  z53 := Tryz.sizeOf22
  v53 := Tryz.zeroValue22 }
open Go.RowKit Go.Sort Go.Lib in
/-- internal/strconv.formatBase10: "formatBase10 formats the decimal representation of u into a. The caller is responsible for ensuring that a is big enough to hold u. If a is too big, leading zeros will be filled in as needed.": THE ROW HOLDS u's DIGITS ('FmtInv .. 0 ..': every place t holds 'dg u (len - 1 - t)'); all else is as it was but for the count of draws. (LAID: no walk: one application.) -/
theorem Tryz.internal_strconv_formatBase10 (blk off cap : Nat) (u : Nat) (d : Array UInt8) (w : World) (hH : Holds (fun (b : UInt8) => Value.int .u8 (b.toNat : Int)) w blk off d) (hu : u < 10 ^ d.size) (hu64 : u < 18446744073709551616) (hsz : d.size < 4611686018427387904) :
    Calls Tryz.prog 148 #[.slice (some ⟨blk, off, none⟩) d.size cap, .int .u64 u] w fun e w' =>
      e = .returned (.tuple #[]) ∧ ∃ (n v' : Nat) (dk : Array UInt8), w' = (putRow (fun (b : UInt8) => Value.int .u8 (b.toNat : Int)) w blk off dk).drewN n ∧ FmtInv d.size u 0 v' dk := Any.internal_strconv_formatBase10 Tryz.lays285 blk off cap u d w hH hu hu64 hsz
def Tryz.laysM171_ren : Go.Shelf.Ren := ⟨fun | 171 => 21 | 243 => 50 | 246 => 94 | 283 => 147 | 284 => 136 | 285 => 148 | 286 => 149 | 129 => 133 | 317 => 137 | 318 => 189 | 319 => 199 | 320 => 200 | 337 => 215 | 338 => 216 | n => n, fun | 3 => 3 | 9 => 9 | 2 => 2 | 4 => 4 | 171 => 187 | 0 => 0 | 53 => 22 | 37 => 88 | 5 => 5 | 173 => 204 | 212 => 254 | 51 => 142 | 20 => 20 | 213 => 262 | 46 => 51 | 232 => 181 | 233 => 293 | n => n, fun | 17 => 9 | 18 => 13 | 19 => 14 | n => n⟩
theorem Tryz.laysM171 : Go.Proofs.LaysM.n171 Tryz.prog Tryz.laysM171_ren := {
  mixed := by kernel_rfl
  f129 := Tryz.func133.trans (congrArg some (by kernel_rfl))
  f171 := Tryz.func21.trans (congrArg some (by kernel_rfl))
  f243 := Tryz.func50.trans (congrArg some (by kernel_rfl))
  f246 := Tryz.func94.trans (congrArg some (by kernel_rfl))
  f283 := Tryz.func147.trans (congrArg some (by kernel_rfl))
  f284 := Tryz.func136.trans (congrArg some (by kernel_rfl))
  f285 := Tryz.func148.trans (congrArg some (by kernel_rfl))
  f286 := Tryz.func149.trans (congrArg some (by kernel_rfl))
  f317 := Tryz.func137.trans (congrArg some (by kernel_rfl))
  f318 := Tryz.func189.trans (congrArg some (by kernel_rfl))
  f319 := Tryz.func199.trans (congrArg some (by kernel_rfl))
  f320 := Tryz.func200.trans (congrArg some (by kernel_rfl))
  f337 := Tryz.func215.trans (congrArg some (by kernel_rfl))
  f338 := Tryz.func216.trans (congrArg some (by kernel_rfl))
  t0 := Tryz.underlying0
  a0 := Tryz.isAgg0
  z0 := Tryz.sizeOf0
  v0 := Tryz.zeroValue0
  t2 := Tryz.underlying2
  a2 := Tryz.isAgg2
  z2 := Tryz.sizeOf2
  v2 := Tryz.zeroValue2
  t3 := Tryz.underlying3
  a3 := Tryz.isAgg3
  z3 := Tryz.sizeOf3
  v3 := Tryz.zeroValue3
  t4 := Tryz.underlying4
  a4 := Tryz.isAgg4
  z4 := Tryz.sizeOf4
  v4 := Tryz.zeroValue4
  t5 := Tryz.underlying5
  a5 := Tryz.isAgg5
  z5 := Tryz.sizeOf5
  v5 := Tryz.zeroValue5
  t9 := Tryz.underlying9
  a9 := Tryz.isAgg9
  z9 := Tryz.sizeOf9
  v9 := Tryz.zeroValue9
  t20 := Tryz.underlying20
  a20 := Tryz.isAgg20
  z20 := Tryz.sizeOf20
  v20 := Tryz.zeroValue20
  t37 := Tryz.underlying88
  a37 := Tryz.isAgg88
  z37 := Tryz.sizeOf88
  v37 := Tryz.zeroValue88
  t46 := Tryz.underlying51
  a46 := Tryz.isAgg51
  z46 := Tryz.sizeOf51
  v46 := Tryz.zeroValue51
  t51 := Tryz.underlying142
  a51 := Tryz.isAgg142
  z51 := Tryz.sizeOf142
  v51 := Tryz.zeroValue142
  t53 := Tryz.underlying22
  a53 := Tryz.isAgg22
  z53 := Tryz.sizeOf22
  v53 := Tryz.zeroValue22
  t171 := Tryz.underlying187
  a171 := Tryz.isAgg187
  z171 := Tryz.sizeOf187
  v171 := Tryz.zeroValue187
  t173 := Tryz.underlying204
  a173 := Tryz.isAgg204
  z173 := Tryz.sizeOf204
  v173 := Tryz.zeroValue204
  t212 := Tryz.underlying254
  a212 := Tryz.isAgg254
  z212 := Tryz.sizeOf254
  v212 := Tryz.zeroValue254
  t213 := Tryz.underlying262
  a213 := Tryz.isAgg262
  z213 := Tryz.sizeOf262
  t232 := Tryz.underlying181
  a232 := Tryz.isAgg181
  z232 := Tryz.sizeOf181
  v232 := Tryz.zeroValue181
  t233 := Tryz.underlying293
  a233 := Tryz.isAgg293
  z233 := Tryz.sizeOf293
  v233 := Tryz.zeroValue293
  g17 := by kernel_rfl
  g18 := by kernel_rfl
  g19 := by kernel_rfl
  i0 := by kernel_rfl
  i2 := by kernel_rfl
  i3 := by kernel_rfl
  i4 := by kernel_rfl
  i5 := by kernel_rfl
  i9 := by kernel_rfl
  i20 := by kernel_rfl
  i37 := by kernel_rfl
  i46 := by kernel_rfl
  i51 := by kernel_rfl
  i53 := by kernel_rfl
  i171 := by kernel_rfl
  i173 := by kernel_rfl
  i212 := by kernel_rfl
  i232 := by kernel_rfl
  i233 := by kernel_rfl
  m17 := by kernel_rfl
  m18 := by kernel_rfl
  m19 := by kernel_rfl }
open Go.RowKit Go.Sort Go.Lib in
/-- strconv.Itoa: "Itoa is equivalent to FormatInt(int64(i), 10).": i's DECIMAL NUMERAL ('Lib.itoa': a '-' where i is negative, then the digits), FOR EVERY int. The world behind the call: the world before it, new blocks behind the heap (the library's 'var a [24]byte'), draws. (LAID: no walk: one application.) -/
theorem Tryz.strconv_Itoa (n : Int) (h0 : -9223372036854775808 ≤ n) (h1 : n ≤ 9223372036854775807) (w : World) (htab : Lib.TabIs Tryz.prog w "internal/strconv.uint64pow10" .u64 Lib.pow10Tab) :
    Calls Tryz.prog 21 #[.int .i64 n] w fun e w' => e = .returned (.string ⟨(Lib.itoa n).toArray⟩) ∧ ∃ k os, w' = grow (w.drewN k) os := Any.strconv_Itoa Tryz.laysM171 n h0 h1 w htab
def Tryz.lays145_ren : Go.Shelf.Ren := ⟨fun | 145 => 17 | 220 => 42 | 219 => 82 | 217 => 106 | 225 => 125 | 224 => 126 | 267 => 127 | 266 => 156 | 314 => 177 | n => n, fun | 9 => 9 | 4 => 4 | 59 => 52 | 3 => 3 | 5 => 5 | 46 => 51 | 146 => 143 | 51 => 142 | n => n, fun | 1 => 3 | n => n⟩
theorem Tryz.lays145 : Go.Proofs.Lays.n145 Tryz.prog Tryz.lays145_ren := {
  mixed := by kernel_rfl
  f145 := Tryz.func17.trans (congrArg some (by kernel_rfl))
  f217 := Tryz.func106.trans (congrArg some (by kernel_rfl))
  f219 := Tryz.func82.trans (congrArg some (by kernel_rfl))
  f220 := Tryz.func42.trans (congrArg some (by kernel_rfl))
  f224 := Tryz.func126.trans (congrArg some (by kernel_rfl))
  f225 := Tryz.func125.trans (congrArg some (by kernel_rfl))
  f266 := Tryz.func156.trans (congrArg some (by kernel_rfl))
  f267 := Tryz.func127.trans (congrArg some (by kernel_rfl))
  f314 := Tryz.func177.trans (congrArg some (by kernel_rfl))
  t3 := Tryz.underlying3
  a3 := Tryz.isAgg3
  z3 := Tryz.sizeOf3
  v3 := Tryz.zeroValue3
  t4 := Tryz.underlying4
  a4 := Tryz.isAgg4
  z4 := Tryz.sizeOf4
  v4 := Tryz.zeroValue4
  t5 := Tryz.underlying5
  a5 := Tryz.isAgg5
  z5 := Tryz.sizeOf5
  v5 := Tryz.zeroValue5
  t9 := Tryz.underlying9
  a9 := Tryz.isAgg9
  z9 := Tryz.sizeOf9
  v9 := Tryz.zeroValue9
  t46 := Tryz.underlying51
  a46 := Tryz.isAgg51
  z46 := Tryz.sizeOf51
  v46 := Tryz.zeroValue51
  t51 := Tryz.underlying142
  a51 := Tryz.isAgg142
  z51 := Tryz.sizeOf142
  v51 := Tryz.zeroValue142
  t59 := Tryz.underlying52
  a59 := Tryz.isAgg52
  z59 := Tryz.sizeOf52
  v59 := Tryz.zeroValue52
  t146 := Tryz.underlying143
  a146 := Tryz.isAgg143
  z146 := Tryz.sizeOf143
  v146 := Tryz.zeroValue143
  g1 := by kernel_rfl }
open Go.RowKit Go.Lib in
/-- strings.Cut: "Cut slices s around the first instance of sep, returning the text before and after sep. The found result reports whether sep appears in s. If sep does not appear in s, cut returns s, "", false.": IT RETURNS 'Lib.cut s sep'; the world is as it was but for the count of draws. (LAID: no walk: one application.) -/
theorem Tryz.strings_Cut (s sep : ByteArray) (m : Int) (w : World) (hs : s.size < 4294967281) (hm : w.cell? ⟨3, 0, none⟩ = some (.int .i64 m)) :
    Calls Tryz.prog 17 #[.string s, .string sep] w fun e w' => e = .returned (.tuple #[.string ⟨(Lib.cut s.data.toList sep.data.toList).1.toArray⟩, .string ⟨(Lib.cut s.data.toList sep.data.toList).2.1.toArray⟩, .bool (Lib.cut s.data.toList sep.data.toList).2.2]) ∧ ∃ n, w' = w.drewN n := Any.strings_Cut Tryz.lays145 s sep m w hs hm
def Tryz.lays138_ren : Go.Shelf.Ren := ⟨fun | 138 => 44 | 195 => 85 | 218 => 86 | 143 => 46 | 219 => 82 | 217 => 106 | 225 => 125 | 224 => 126 | 267 => 127 | 266 => 156 | 314 => 177 | n => n, fun | 9 => 9 | 3 => 3 | 4 => 4 | 5 => 5 | 0 => 0 | 46 => 51 | 146 => 143 | 51 => 142 | n => n, fun | 1 => 3 | n => n⟩
theorem Tryz.lays138 : Go.Proofs.Lays.n138 Tryz.prog Tryz.lays138_ren := {
  mixed := by kernel_rfl
  f138 := Tryz.func44.trans (congrArg some (by kernel_rfl))
  f143 := Tryz.func46.trans (congrArg some (by kernel_rfl))
  f195 := Tryz.func85.trans (congrArg some (by kernel_rfl))
  f217 := Tryz.func106.trans (congrArg some (by kernel_rfl))
  f218 := Tryz.func86.trans (congrArg some (by kernel_rfl))
  f219 := Tryz.func82.trans (congrArg some (by kernel_rfl))
  f224 := Tryz.func126.trans (congrArg some (by kernel_rfl))
  f225 := Tryz.func125.trans (congrArg some (by kernel_rfl))
  f266 := Tryz.func156.trans (congrArg some (by kernel_rfl))
  f267 := Tryz.func127.trans (congrArg some (by kernel_rfl))
  f314 := Tryz.func177.trans (congrArg some (by kernel_rfl))
  t0 := Tryz.underlying0
  a0 := Tryz.isAgg0
  z0 := Tryz.sizeOf0
  v0 := Tryz.zeroValue0
  t3 := Tryz.underlying3
  a3 := Tryz.isAgg3
  z3 := Tryz.sizeOf3
  v3 := Tryz.zeroValue3
  t4 := Tryz.underlying4
  a4 := Tryz.isAgg4
  z4 := Tryz.sizeOf4
  v4 := Tryz.zeroValue4
  t5 := Tryz.underlying5
  a5 := Tryz.isAgg5
  z5 := Tryz.sizeOf5
  v5 := Tryz.zeroValue5
  t9 := Tryz.underlying9
  a9 := Tryz.isAgg9
  z9 := Tryz.sizeOf9
  v9 := Tryz.zeroValue9
  t46 := Tryz.underlying51
  a46 := Tryz.isAgg51
  z46 := Tryz.sizeOf51
  v46 := Tryz.zeroValue51
  t51 := Tryz.underlying142
  a51 := Tryz.isAgg142
  z51 := Tryz.sizeOf142
  v51 := Tryz.zeroValue142
  t146 := Tryz.underlying143
  a146 := Tryz.isAgg143
  z146 := Tryz.sizeOf143
  v146 := Tryz.zeroValue143
  g1 := by kernel_rfl }
open Go.RowKit Go.Lib in
/-- strings.Count AT A substr OF ONE BYTE ('hp'): "Count counts the number of non-overlapping instances of substr in s.": IT RETURNS 'Lib.countByte s (that byte)'; the world is as it was. ✋ NO CONTRACT HERE YET at an empty substr (utf8.RuneCountInString) or at a longer one (a loop over strings.Index). (LAID: no walk: one application.) -/
theorem Tryz.strings_Count_one (s : ByteArray) (c : UInt8) (w : World) :
    Calls Tryz.prog 44 #[.string s, .string ⟨#[c]⟩] w fun e w' => e = .returned (.int .i64 (Lib.countByte s.data.toList c)) ∧ w' = w := Any.strings_Count_one Tryz.lays138 s c w
def Tryz.lays154_ren : Go.Shelf.Ren := ⟨fun | 154 => 19 | 138 => 44 | 165 => 45 | 143 => 46 | 166 => 36 | 197 => 47 | 169 => 38 | 195 => 85 | 218 => 86 | 240 => 74 | 241 => 87 | 219 => 82 | 260 => 88 | 276 => 118 | 277 => 143 | 217 => 106 | 225 => 125 | 224 => 126 | 267 => 127 | 266 => 156 | 314 => 177 | n => n, fun | 9 => 9 | 3 => 3 | 4 => 4 | 72 => 90 | 0 => 0 | 76 => 56 | 105 => 103 | 21 => 21 | 5 => 5 | 70 => 87 | 20 => 20 | 37 => 88 | 75 => 37 | 127 => 128 | 164 => 167 | 46 => 51 | 119 => 122 | 139 => 197 | 138 => 196 | 146 => 143 | 51 => 142 | 80 => 98 | n => n, fun | 1 => 3 | 3 => 5 | 4 => 6 | n => n⟩
theorem Tryz.lays154 : Go.Proofs.Lays.n154 Tryz.prog Tryz.lays154_ren := {
  mixed := by kernel_rfl
  f138 := Tryz.func44.trans (congrArg some (by kernel_rfl))
  f143 := Tryz.func46.trans (congrArg some (by kernel_rfl))
  f154 := Tryz.func19.trans (congrArg some (by kernel_rfl))
  f165 := Tryz.func45.trans (congrArg some (by kernel_rfl))
  f166 := Tryz.func36.trans (congrArg some (by kernel_rfl))
  f169 := Tryz.func38.trans (congrArg some (by kernel_rfl))
  f195 := Tryz.func85.trans (congrArg some (by kernel_rfl))
  f197 := Tryz.func47.trans (congrArg some (by kernel_rfl))
  f217 := Tryz.func106.trans (congrArg some (by kernel_rfl))
  f218 := Tryz.func86.trans (congrArg some (by kernel_rfl))
  f219 := Tryz.func82.trans (congrArg some (by kernel_rfl))
  f224 := Tryz.func126.trans (congrArg some (by kernel_rfl))
  f225 := Tryz.func125.trans (congrArg some (by kernel_rfl))
  f240 := Tryz.func74.trans (congrArg some (by kernel_rfl))
  f241 := Tryz.func87.trans (congrArg some (by kernel_rfl))
  f260 := Tryz.func88.trans (congrArg some (by kernel_rfl))
  f266 := Tryz.func156.trans (congrArg some (by kernel_rfl))
  f267 := Tryz.func127.trans (congrArg some (by kernel_rfl))
  f276 := Tryz.func118.trans (congrArg some (by kernel_rfl))
  f277 := Tryz.func143.trans (congrArg some (by kernel_rfl))
  f314 := Tryz.func177.trans (congrArg some (by kernel_rfl))
  t0 := Tryz.underlying0
  a0 := Tryz.isAgg0
  z0 := Tryz.sizeOf0
  v0 := Tryz.zeroValue0
  t3 := Tryz.underlying3
  a3 := Tryz.isAgg3
  z3 := Tryz.sizeOf3
  v3 := Tryz.zeroValue3
  t4 := Tryz.underlying4
  a4 := Tryz.isAgg4
  z4 := Tryz.sizeOf4
  v4 := Tryz.zeroValue4
  t5 := Tryz.underlying5
  a5 := Tryz.isAgg5
  z5 := Tryz.sizeOf5
  v5 := Tryz.zeroValue5
  t9 := Tryz.underlying9
  a9 := Tryz.isAgg9
  z9 := Tryz.sizeOf9
  v9 := Tryz.zeroValue9
  t20 := Tryz.underlying20
  a20 := Tryz.isAgg20
  z20 := Tryz.sizeOf20
  v20 := Tryz.zeroValue20
  t21 := Tryz.underlying21
  a21 := Tryz.isAgg21
  z21 := Tryz.sizeOf21
  v21 := Tryz.zeroValue21
  t37 := Tryz.underlying88
  a37 := Tryz.isAgg88
  z37 := Tryz.sizeOf88
  v37 := Tryz.zeroValue88
  t46 := Tryz.underlying51
  a46 := Tryz.isAgg51
  z46 := Tryz.sizeOf51
  v46 := Tryz.zeroValue51
  t51 := Tryz.underlying142
  a51 := Tryz.isAgg142
  z51 := Tryz.sizeOf142
  v51 := Tryz.zeroValue142
  t70 := Tryz.underlying87
  a70 := Tryz.isAgg87
  z70 := Tryz.sizeOf87
  v70 := Tryz.zeroValue87
  t72 := Tryz.underlying90
  a72 := Tryz.isAgg90
  z72 := Tryz.sizeOf90
  v72 := Tryz.zeroValue90
  t75 := Tryz.underlying37
  a75 := Tryz.isAgg37
  z75 := Tryz.sizeOf37
  v75 := Tryz.zeroValue37
  t76 := Tryz.underlying56
  a76 := Tryz.isAgg56
  z76 := Tryz.sizeOf56
  v76 := Tryz.zeroValue56
  t105 := Tryz.underlying103
  a105 := Tryz.isAgg103
  z105 := Tryz.sizeOf103
  v105 := Tryz.zeroValue103
  t119 := Tryz.underlying122
  a119 := Tryz.isAgg122
  z119 := Tryz.sizeOf122
  t127 := Tryz.underlying128
  a127 := Tryz.isAgg128
  z127 := Tryz.sizeOf128
  v127 := Tryz.zeroValue128
  t138 := Tryz.underlying196
  a138 := Tryz.isAgg196
  z138 := Tryz.sizeOf196
  v138 := Tryz.zeroValue196
  t139 := Tryz.underlying197
  a139 := Tryz.isAgg197
  z139 := Tryz.sizeOf197
  v139 := Tryz.zeroValue197
  t146 := Tryz.underlying143
  a146 := Tryz.isAgg143
  z146 := Tryz.sizeOf143
  v146 := Tryz.zeroValue143
  t164 := Tryz.underlying167
  a164 := Tryz.isAgg167
  z164 := Tryz.sizeOf167
  v164 := Tryz.zeroValue167
  g1 := by kernel_rfl
  g3 := by kernel_rfl
  g4 := by kernel_rfl }
theorem Tryz.Builder_Extra_154 : Builder.Extra Tryz.prog Tryz.lays154_ren := {
  sizeBuilder := by kernel_rfl
  liesBuilder := by kernel_rfl
  t5 := Tryz.underlying5
  a5 := Tryz.isAgg5
  z5 := Tryz.sizeOf5
  v5 := Tryz.zeroValue5
  infoByte := by kernel_rfl
  cellsByte := by kernel_rfl
  sizeByte := by kernel_rfl
  neB5 := by decide }
open Go.RowKit Go.Lib in
/-- strings.Replace: "Replace returns a copy of the string s with the first n non-overlapping instances of old replaced by new. .. If n < 0, there is no limit on the number of replacements.": AT AN old THAT IS NOT EMPTY: IT RETURNS 'Lib.replace s old new n'. Below the heap's end the world is as it was. IT ASKS, as strings.Index's contract: 'len(s) < 4294967281', 'hm'; and that what comes out has room: 'len(s) + Count(s, old) * len(new) ≤ 2^47'. (LAID: no walk: one application.) -/
theorem Tryz.strings_Replace (s old new : ByteArray) (n : Int) (m : Int) (w : World) (hs : s.size < 4294967281) (hm : w.cell? ⟨3, 0, none⟩ = some (.int .i64 m)) (h1 : 1 ≤ old.size) (hlen : s.size + Lib.countB s old * new.size ≤ 140737488355328) :
    Calls Tryz.prog 19 #[.string s, .string old, .string new, .int .i64 n] w fun e w' =>
      e = .returned (.string ⟨(Lib.replace s.data.toList old.data.toList new.data.toList n).toArray⟩) ∧ Below w.heap.size w w' := Any.strings_Replace Tryz.lays154 Tryz.Builder_Extra_154 s old new n m w hs hm h1 hlen
def Tryz.lays105_ren : Go.Shelf.Ren := ⟨fun | 105 => 22 | 212 => 51 | 99 => 52 | 165 => 45 | 166 => 36 | 170 => 35 | 169 => 38 | 263 => 95 | 264 => 96 | 206 => 97 | 240 => 74 | 241 => 87 | 276 => 118 | 277 => 143 | n => n, fun | 9 => 9 | 3 => 3 | 4 => 4 | 20 => 20 | 0 => 0 | 46 => 51 | 109 => 106 | 5 => 5 | 72 => 90 | 76 => 56 | 51 => 142 | 146 => 143 | 53 => 22 | 148 => 145 | 70 => 87 | 37 => 88 | 75 => 37 | 127 => 128 | 164 => 167 | 80 => 98 | n => n, fun | n => n⟩
theorem Tryz.lays105 : Go.Proofs.Lays.n105 Tryz.prog Tryz.lays105_ren := {
  mixed := by kernel_rfl
  f99 := Tryz.func52.trans (congrArg some (by kernel_rfl))
  f105 := Tryz.func22.trans (congrArg some (by kernel_rfl))
  f165 := Tryz.func45.trans (congrArg some (by kernel_rfl))
  f166 := Tryz.func36.trans (congrArg some (by kernel_rfl))
  f169 := Tryz.func38.trans (congrArg some (by kernel_rfl))
  f170 := Tryz.func35.trans (congrArg some (by kernel_rfl))
  f206 := Tryz.func97.trans (congrArg some (by kernel_rfl))
  f212 := Tryz.func51.trans (congrArg some (by kernel_rfl))
  f240 := Tryz.func74.trans (congrArg some (by kernel_rfl))
  f241 := Tryz.func87.trans (congrArg some (by kernel_rfl))
  f263 := Tryz.func95.trans (congrArg some (by kernel_rfl))
  f264 := Tryz.func96.trans (congrArg some (by kernel_rfl))
  f276 := Tryz.func118.trans (congrArg some (by kernel_rfl))
  f277 := Tryz.func143.trans (congrArg some (by kernel_rfl))
  t0 := Tryz.underlying0
  a0 := Tryz.isAgg0
  z0 := Tryz.sizeOf0
  v0 := Tryz.zeroValue0
  t3 := Tryz.underlying3
  a3 := Tryz.isAgg3
  z3 := Tryz.sizeOf3
  v3 := Tryz.zeroValue3
  t4 := Tryz.underlying4
  a4 := Tryz.isAgg4
  z4 := Tryz.sizeOf4
  v4 := Tryz.zeroValue4
  t5 := Tryz.underlying5
  a5 := Tryz.isAgg5
  z5 := Tryz.sizeOf5
  v5 := Tryz.zeroValue5
  t9 := Tryz.underlying9
  a9 := Tryz.isAgg9
  z9 := Tryz.sizeOf9
  v9 := Tryz.zeroValue9
  t20 := Tryz.underlying20
  a20 := Tryz.isAgg20
  z20 := Tryz.sizeOf20
  v20 := Tryz.zeroValue20
  t37 := Tryz.underlying88
  a37 := Tryz.isAgg88
  z37 := Tryz.sizeOf88
  v37 := Tryz.zeroValue88
  t46 := Tryz.underlying51
  a46 := Tryz.isAgg51
  z46 := Tryz.sizeOf51
  v46 := Tryz.zeroValue51
  t51 := Tryz.underlying142
  a51 := Tryz.isAgg142
  z51 := Tryz.sizeOf142
  v51 := Tryz.zeroValue142
  t53 := Tryz.underlying22
  a53 := Tryz.isAgg22
  z53 := Tryz.sizeOf22
  v53 := Tryz.zeroValue22
  t70 := Tryz.underlying87
  a70 := Tryz.isAgg87
  z70 := Tryz.sizeOf87
  v70 := Tryz.zeroValue87
  t72 := Tryz.underlying90
  a72 := Tryz.isAgg90
  z72 := Tryz.sizeOf90
  v72 := Tryz.zeroValue90
  t75 := Tryz.underlying37
  a75 := Tryz.isAgg37
  z75 := Tryz.sizeOf37
  v75 := Tryz.zeroValue37
  t76 := Tryz.underlying56
  a76 := Tryz.isAgg56
  z76 := Tryz.sizeOf56
  v76 := Tryz.zeroValue56
  t109 := Tryz.underlying106
  a109 := Tryz.isAgg106
  z109 := Tryz.sizeOf106
  v109 := Tryz.zeroValue106
  t127 := Tryz.underlying128
  a127 := Tryz.isAgg128
  z127 := Tryz.sizeOf128
  v127 := Tryz.zeroValue128
  t146 := Tryz.underlying143
  a146 := Tryz.isAgg143
  z146 := Tryz.sizeOf143
  v146 := Tryz.zeroValue143
  t148 := Tryz.underlying145
  a148 := Tryz.isAgg145
  z148 := Tryz.sizeOf145
  v148 := Tryz.zeroValue145
  t164 := Tryz.underlying167
  a164 := Tryz.isAgg167
  z164 := Tryz.sizeOf167
  v164 := Tryz.zeroValue167 }
theorem Tryz.Builder_Extra_105 : Builder.Extra Tryz.prog Tryz.lays105_ren := {
  sizeBuilder := by kernel_rfl
  liesBuilder := by kernel_rfl
  t5 := Tryz.underlying5
  a5 := Tryz.isAgg5
  z5 := Tryz.sizeOf5
  v5 := Tryz.zeroValue5
  infoByte := by kernel_rfl
  cellsByte := by kernel_rfl
  sizeByte := by kernel_rfl
  neB5 := by decide }
open Go.RowKit Go.Lib in
/-- **strings.Repeat: count ≥ 0, the result within one allocation: count copies of s.** (LAID: no walk: one application.) -/
theorem Tryz.strings_Repeat (s : ByteArray) (c : Nat) (w : World) (hc : c ≤ 9223372036854775807) (hlen : s.size * c ≤ 140737488355328) :
    Calls Tryz.prog 22 #[.string s, .int .i64 c] w fun e w' => e = .returned (.string ⟨(Lib.repeatL s.data.toList c).toArray⟩) ∧ Below w.heap.size w w' := Any.strings_Repeat Tryz.lays105 Tryz.Builder_Extra_105 s c w hc hlen
end Go.Proofs
set_option linter.unusedVariables false
set_option linter.unusedSimpArgs false
set_option maxRecDepth 1000000
set_option maxHeartbeats 40000000
namespace Go.Proofs
open Go.RowKit Go.Pf
theorem Tryz.log10Pow2 (x:Int) (h1: -5000≤x) (h2:x≤5000) (w:World):Calls Tryz.prog 137 #[.int .i64 x] w fun e w'=>e= .returned (.int .i64 (x*78913/262144))∧w=w':=by
 go_enter Tryz.func137,Tryz.ntmps137
 go_wp2
 go_ret
 exact⟨rfl,rfl⟩
theorem Tryz.skewed (x:Int) (h1: -5000≤x) (h2:x≤5000) (w:World):Calls Tryz.prog 181 #[.int .i64 x] w fun e w'=>e= .returned (.int .i64 ((x*631305-261663)/2097152))∧w=w':=by
 go_enter Tryz.func181,Tryz.ntmps181
 go_wp2
 go_ret
 exact⟨rfl,rfl⟩
theorem Tryz.nudge (u d:Int) (h1:0≤u+d) (h2:u+d<9223372036854775808) (h3: -1≤d) (h4:d≤1) (w:World):Calls Tryz.prog 185 #[.int .u64 u,.int .i64 d] w fun e w'=>e= .returned (.int .u64 (u+d))∧w=w':=by
 go_enter Tryz.func185,Tryz.ntmps185
 go_wp2
 go_ret
 refine⟨?_,rfl⟩
 have e:IntKind.u64.wrap (u+IntKind.u64.wrap d)=u+d:=by rw[IntKind.wrap_u64,IntKind.wrap_u64];omega
 rw[e]
 rfl
theorem Tryz.uceil (u:Nat) (h:u<1152921504606846976) (w:World):Calls Tryz.prog 186 #[.int .u64 u] w fun e w'=>e= .returned (.int .u64 ((u+3)/4:Nat))∧w=w':=by
 have f4:(u:Int)<1152921504606846976:=by omega
 have HR:Hid ((((u+3)/4:Nat):Int)=((u:Int)+3)/4):=Hi (by omega)
 clear h
 go_enter Tryz.func186,Tryz.ntmps186
 go_wp2
 go_ret
 rw[HR.out]
 exact⟨rfl,rfl⟩
theorem Tryz.ufloor (u:Nat) (h:u<1152921504606846976) (w:World):Calls Tryz.prog 187 #[.int .u64 u] w fun e w'=>e= .returned (.int .u64 (u/4:Nat))∧w=w':=by
 have f4:(u:Int)<1152921504606846976:=by omega
 have HR:Hid (((u/4:Nat):Int)=(u:Int)/4):=Hi (by omega)
 clear h
 go_enter Tryz.func187,Tryz.ntmps187
 go_wp2
 go_ret
 rw[HR.out]
 exact⟨rfl,rfl⟩
end Go.Proofs
set_option linter.unusedVariables false
set_option linter.unusedSimpArgs false
set_option maxRecDepth 1000000
set_option maxHeartbeats 40000000
namespace Go.Pf
/-- The unit's exponent, of what the float's exponent is. -/
def uExp (sk:Bool) (E:Int):Int:=if sk then(E*631305-261663)/2097152 else E*78913/262144
/-- What shortFloat tells of uscale's answers. -/
def sfR (un ux um od:Nat) (P:Int):Nat×Int:=
 if (un+od+3)/4≤(ux-od)/4/10*10 then((ux-od)/4/10,P+1)
 else if (un+od+3)/4<(ux-od)/4 then((um+1+um/4 %2)/4,P) else((un+od+3)/4,P)
end Go.Pf
namespace Go.Proofs
open Go.RowKit Go.Pf
theorem i64_and1 (q:Nat) (h:q<9007199254740992):bits .and .i64 (q:Int) 1=((q%2:Nat):Int):=by
 have:=bits_mask .i64 63 (by decide) (fun n h0 h1=>IntWalk.i64_in n ⟨by omega,by omega⟩) 1 (by decide) (q:Int) (by omega) (by omega)
 have e:(2:Int)^1-1=1:=by decide
 rw[e]at this
 rw[this]
 omega
theorem Tryz.shortFloat (m z i k:Nat) (e:Int) (sk:Bool) (P:Int) (w:World) (hm:9223372036854775808≤m) (hm2:m+2^(z-1)<18446744073709551616) (hz:11≤z) (hz2:z≤63) (he:(z=11∧ -1085≤e)∨(z:Int)= -1074-e∧e< -1085) (he2:e≤1000)
 (hsk:sk=true↔(m=9223372036854775808∧ -1085<e)) (hP:P=uExp sk (e+z)) (hi:348-P=(i:Int)) (hi2:i<696) (hk:(k:Int)= -(e+(-P)*108853/32768+3)) (hk2:k<64) (hk5:5≤k) (hT:Hid (Tab16 w)) (h11:10<w.heap.size)
 (un ux um od:Nat) (hun:un=uscN (if sk then m-2^(z-2) else m-2^(z-1)) (powHi i) (powLo i) k) (hux:ux=uscN (m+2^(z-1)) (powHi i) (powLo i) k) (hum:um=uscN m (powHi i) (powLo i) k) (hod:od=m/2^z %2) (hox:od≤ux) (b1:un<1152921504606846000) (b2:ux<1152921504606846000) (b3:um<1152921504606846000):
 Calls Tryz.prog 142 #[.int .u64 m,.int .i64 e] w fun r w'=>r= .returned (.tuple #[.int .u64 (sfR un ux um od P).1,.int .i64 (sfR un ux um od P).2])∧Below w.heap.size w w':=by
 obtain⟨E,hE⟩:∃E:Int,E=e+z:=⟨_,rfl⟩
 obtain⟨g1,hg1⟩:∃g,g=2^(z-1):=⟨_,rfl⟩
 obtain⟨g2,hg2⟩:∃g,g=2^(z-2):=⟨_,rfl⟩
 obtain⟨q,hq⟩:∃q,q=m/2^z:=⟨_,rfl⟩
 obtain⟨mn,hmn⟩:∃n,n=(if sk then m-2^(z-2) else m-2^(z-1)):=⟨_,rfl⟩
 obtain⟨mx,hmx⟩:∃n,n=m+2^(z-1):=⟨_,rfl⟩
 have hg1b:g1≤4611686018427387904:=by
  rw[hg1];exact Nat.pow_le_pow_right (by decide) (show z-1≤62 by omega)
 have hg21:2*g2=g1:=by
  rw[hg1,hg2,show z-1=(z-2)+1 by omega,Nat.pow_succ];omega
 have HMN:Hid (mn=(if sk then m-g2 else m-g1)):=Hi (by rw[hg1,hg2];exact hmn)
 have HMX:Hid (mx=m+g1):=Hi (by rw[hg1];exact hmx)
 have mxb:mx<18446744073709551616:=by rw[hmx];exact hm2
 have mnb:mn<18446744073709551616:=by rw[hmn];split<;>omega
 replace hun:un=uscN mn (powHi i) (powLo i) k:=by rw[hmn];exact hun
 replace hux:ux=uscN mx (powHi i) (powLo i) k:=by rw[hmx];exact hux
 have HQ:Hid (od=q%2):=Hi (by rw[hq];exact hod)
 have HP:=Hi hP
 clear hmn hmx hod
 have ez:(e:Int)+z=E:=hE.symm
 have E1: -5000≤E:=by omega
 have E2:E≤5000:=by omega
 have HSK:=Hi hsk
 have ob:(od:Int)≤1:=by have:=HQ.out;omega
 go_enter Tryz.func142,Tryz.ntmps142
 go_upto_region 12 with fail
 go_cut [28]from 22 (fun v wx=>w=wx∧v= .bool sk)
 case first=>
  by_cases h1:m=9223372036854775808
  ·have t1:((m:Int)==9223372036854775808)=true:=by rw[h1];rfl
   have t2:decide (-1085<e)=sk:=by
    cases hs:sk with
    |true=>exact decide_eq_true (HSK.out.1 hs).2
    |false=>exact decide_eq_false (fun h=>by have:=HSK.out.2 ⟨h1,h⟩;rw[hs]at this;cases this)
   have H1:=Hi h1
   clear h1
   go_wp2
   go_meet
   go_goals
   case rel=>exact⟨rfl,rfl⟩
   all_goals (try rw[H1.out])
   all_goals rfl
  ·have t1:((m:Int)==9223372036854775808)=false:=by rw[Bool.eq_false_iff];intro h;have:=eq_of_beq h;omega
   have t2:sk=false:=by
    cases hs:sk with
    |true=>exact absurd (HSK.out.1 hs).1 h1
    |false=>rfl
   clear h1
   go_wp2
   go_meet
   go_goals
   case rel=>exact⟨rfl,by rw[t2]⟩
 case rest=>
 obtain⟨rfl,rfl⟩:=hcut
 go_upto_if 28 with fail
 go_cut [5,8,9,10]from 11 (fun v5 v8 v9 v10 wx=>w=wx∧v5= .int .i64 (-P)∧v8= .int .u64 mn∧v9= .int .u64 mx∧v10= .int .i64 od)
 case first=>
  cases hs:sk with
  |true=>
   have hm63:=(HSK.out.1 hs)
   have z11:z=11:=by omega
   have G1:g1=1024:=by rw[hg1,z11]
   have G2:g2=512:=by rw[hg2,z11]
   have eq:(m:Int)/2048=(q:Int):=by rw[hq,z11];omega
   have f1:(m:Int)+1024≤18446744073709551615:=by omega
   have f2:bits .and .i64 (q:Int) 1=(od:Int):=by rw[HQ.out];exact i64_and1 q (by omega)
   have V5:Hid (-(((e+11)*631305-261663)/2097152)= -P):=Hi (by rw[HP.out,z11,show ((11:Nat):Int)=11 from rfl];unfold uExp;rw[hs];rfl)
   have V8:Hid ((m:Int)-512=(mn:Int)):=Hi (by rw[HMN.out,hs,G2];simp;omega)
   have V9:Hid ((m:Int)+1024=(mx:Int)):=Hi (by rw[HMX.out,G1];omega)
   have WN:Hid (IntKind.u64.wrap (mn:Int)=(mn:Int)):=Hi (IntWalk.u64_in _ ⟨by omega,by have:=V8.out;omega⟩)
   subst hs
   clear hm63 z11 G1 G2 hg1 hg2 hq hsk hP hE ez hm hm2
   go_wp2
   go_meet
   exact⟨rfl,by rw[V5.out],by rw[V8.out,WN.out],by rw[V9.out],rfl⟩
  |false=>
   have WN:Hid (IntKind.u64.wrap (mn:Int)=(mn:Int)):=Hi (IntWalk.u64_in _ ⟨by omega,by have:=HMN.out;rw[hs]at this;simp at this;omega⟩)
   have WX:Hid (IntKind.u64.wrap (mx:Int)=(mx:Int)):=Hi (IntWalk.u64_in _ ⟨by omega,by have:=HMX.out;rw[←hg1]at hm2;omega⟩)
   have V8:Hid ((m:Int)-(g1:Int)=(mn:Int)):=Hi (by have:=HMN.out;rw[hs]at this;simp at this;omega)
   have V9:Hid ((m:Int)+(g1:Int)=(mx:Int)):=Hi (by have:=HMX.out;omega)
   by_cases hc: -1085≤e
   ·have z11:z=11:=by omega
    have G1:g1=1024:=by rw[hg1,z11]
    have eq:(m:Int)/2048=(q:Int):=by rw[hq,z11];omega
    have f2:bits .and .i64 (q:Int) 1=(od:Int):=by rw[HQ.out];exact i64_and1 q (by omega)
    have WQ:Hid (wrap64 (q:Int)=(q:Int)):=Hi (IntWalk.wrap64_in (q:Int) ⟨by omega,by omega⟩)
    have V5:Hid (-((e+11)*78913/262144)= -P):=Hi (by rw[HP.out,z11,show ((11:Nat):Int)=11 from rfl];unfold uExp;rw[hs];rfl)
    have V8':Hid ((m:Int)-1024=(mn:Int)):=Hi (by have:=V8.out;rw[G1]at this;exact this)
    have V9':Hid ((m:Int)+1024=(mx:Int)):=Hi (by have:=V9.out;rw[G1]at this;exact this)
    subst hs
    clear z11 G1 hg1 hg2 hq hsk hP hE ez hm2 V8 V9
    go_wp2
    go_meet
    exact⟨rfl,by rw[V5.out],by rw[V8'.out,WN.out],by rw[V9'.out,WX.out],by rw[WQ.out,f2]⟩
   ·have ze:(z:Int)= -1074-e:=by omega
    have Z:Hid (11+(-1085-e)=(z:Int)):=Hi (by omega)
    have q1:q<9007199254740992:=by
     rw[hq];exact Nat.lt_of_le_of_lt (Nat.div_le_div_left (Nat.pow_le_pow_right (by decide) hz) (Nat.two_pow_pos _)) (by have:m/2^11=m/2048:=rfl;rw[this];omega)
    have f2:Hid (bits .and .i64 (q:Int) 1=(od:Int)):=Hi (by rw[HQ.out];exact i64_and1 q q1)
    have V5:Hid (-((e+(z:Int))*78913/262144)= -P):=Hi (by rw[HP.out];unfold uExp;rw[hs];rfl)
    have T1:Hid (((z:Int)).toNat=z):=Hi (Int.toNat_natCast z)
    have P1:Hid (IntKind.u64.wrap ((2:Int)^(z-1))=(g1:Int)):=Hi (by
     have:(2:Int)^(z-1)=(g1:Int):=by rw[hg1];push_cast;rfl
     rw[this];exact IntWalk.u64_in _ ⟨by omega,by omega⟩)
    have P2:Hid (wrap64 ((m:Int)/2^z)=(q:Int)):=Hi (by
     have:(m:Int)/2^z=(q:Int):=by rw[hq];push_cast;rfl
     rw[this];exact IntWalk.wrap64_in (q:Int) ⟨by omega,by omega⟩)
    subst hs
    clear hg1 hg2 hq hsk hP hE ez hm2
    go_wp2
    go_meet
    exact⟨rfl,by rw[Z.out,V5.out],by rw[Z.out,T1.out,P1.out,V8.out,WN.out],by rw[Z.out,T1.out,P1.out,V9.out,WX.out],by rw[Z.out,T1.out,P2.out,f2.out]⟩
 case rest=>
 obtain⟨rfl,rfl,rfl,rfl,rfl⟩:=hcut
 clear HQ HMN HSK hsk hP HP hE hg1 hg2 hg21 hg1b hq ez
 have mb:m<18446744073709551616:=by have:=HMX.out;omega
 obtain⟨lp,hlp⟩:∃lp,lp=-P*108853/32768:=⟨_,rfl⟩
 rw[←hlp]at hk
 have P1:-400≤P:=by omega
 have P2:P≤400:=by omega
 have CP:Hid (∀W,Calls Tryz.prog 183 #[.int .i64 (-P)] W fun e w'=>e= .returned (.int .i64 lp)∧W=w'):=Hi (fun W=>by
  rw[hlp];exact Tryz.log2Pow10 (-P) (by omega) (by omega) W)
 have PL:=pow_lt i
 have CPr:=Hi (fun W1 h1 h2 h3 h4 h5 h6 h7=>Tryz.prescale w.heap.size i e (-P) lp W1 (by omega) hi2 (by omega) (by omega) (by omega) (by omega) h11 h1 (v0:= .int .u64 0) (v1:= .int .u64 0) (v2:= .int .i64 0) h2 h3 h4 h5 h6 h7)
 obtain⟨hh,hhh⟩:∃h,h=powHi i:=⟨_,rfl⟩
 obtain⟨lo,hlo⟩:∃h,h=powLo i:=⟨_,rfl⟩
 rw[←hk,←hhh,←hlo]at CPr
 rw[←hhh,←hlo]at PL hun hux hum
 obtain⟨a1,ha1⟩:∃a,a=un+od:=⟨_,rfl⟩
 obtain⟨a2,ha2⟩:∃a,a=ux-od:=⟨_,rfl⟩
 obtain⟨dn,hdn⟩:∃a,a=(a1+3)/4:=⟨_,rfl⟩
 obtain⟨dx,hdx⟩:∃a,a=a2/4:=⟨_,rfl⟩
 obtain⟨dm,hdm⟩:∃a,a=(um+1+um/4 %2)/4:=⟨_,rfl⟩
 obtain⟨dt,hdt⟩:∃a,a=dx/10:=⟨_,rfl⟩
 have C1:=Hi (fun W=>Tryz.nudge (un:Int) (od:Int) (by omega) (by omega) (by omega) (by omega) W)
 have C2:=Hi (fun W=>Tryz.nudge (ux:Int) (-(od:Int)) (by omega) (by omega) (by omega) (by omega) W)
 have C3:=Hi (fun W=>Tryz.uceil a1 (by omega) W)
 have C4:=Hi (fun W=>Tryz.ufloor a2 (by omega) W)
 have C5:=Hi (fun W=>Tryz.urnd um (by omega) W)
 rw[show (un:Int)+(od:Int)=(a1:Int) by omega]at C1
 rw[show (ux:Int)+-(od:Int)=(a2:Int) by omega]at C2
 rw[←hdn]at C3
 rw[←hdx]at C4
 rw[←hdm]at C5
 have hR:sfR un ux um od P=(if dn≤dt*10 then(dt,P+1) else if dn<dx then(dm,P) else(dn,P)):=by
  unfold sfR
  rw[←ha1,←ha2,←hdn,←hdx,←hdm,←hdt]
 have HR:=Hi hR
 have t1:(dx:Int)/10=(dt:Int):=by omega
 have db:dx<1152921504606846976:=by omega
 have db2:dn<1152921504606846976:=by omega
 have db3:dt*10≤dx:=by omega
 clear hR hhh hlo ha1 ha2 hdn hdx hdm hdt hlp hk hi HMX
 have CQ:Hid (∀o,∃W2,Calls Tryz.prog 182 #[.pointer (some ⟨w.heap.size,0,none⟩),.int .i64 e,.int .i64 (-P),.int .i64 lp] (w.alloc (.cells #[.int .u64 0,.int .u64 0,.int .i64 0] o)) (fun r w'=>r= .returned (.tuple #[])∧w'=W2)∧W2.cell? ⟨w.heap.size,0,none⟩=some (.int .u64 hh)∧W2.cell? ⟨w.heap.size,1,none⟩=some (.int .u64 lo)∧W2.cell? ⟨w.heap.size,2,none⟩=some (.int .i64 k)∧Below w.heap.size w W2):=Hi (by
  intro o
  generalize hW:w.alloc _=W1
  have c0:W1.cell? ⟨w.heap.size,0,none⟩=some (.int .u64 0):=by subst hW;go_simp
  have c1:W1.cell? ⟨w.heap.size,1,none⟩=some (.int .u64 0):=by subst hW;go_simp
  have c2:W1.cell? ⟨w.heap.size,2,none⟩=some (.int .i64 0):=by subst hW;go_simp
  have f0:W1.frozen? ⟨w.heap.size,0,none⟩=false:=by subst hW;go_simp
  have f1:W1.frozen? ⟨w.heap.size,1,none⟩=false:=by subst hW;go_simp
  have f2:W1.frozen? ⟨w.heap.size,2,none⟩=false:=by subst hW;go_simp
  have bl:Below w.heap.size w W1:=by subst hW;exact(Below.refl _ _).alloc (nR _) _
  have hT1:=Hi (hT.out.below bl h11)
  refine⟨_,CPr.out W1 hT1 c0 c1 c2 f0 f1 f2,by go_simp,by go_simp,by go_simp,?_⟩
  iterate 3 refine Below.setCell ?_ (by simp) _
  exact bl)
 obtain⟨W2,CQ,d0,d1,d2,bl2⟩:=CQ.out 246
 have CQ:=Hi CQ
 clear CPr
 obtain⟨SC,hSC⟩:∃SC:World→Prop,SC=fun W=>W.cell? ⟨w.heap.size,0,none⟩=some (.int .u64 hh)∧W.cell? ⟨w.heap.size,1,none⟩=some (.int .u64 lo)∧W.cell? ⟨w.heap.size,2,none⟩=some (.int .i64 k)∧Below w.heap.size w W:=⟨_,rfl⟩
 have HS:SC W2:=by rw[hSC];exact⟨d0,d1,d2,bl2⟩
 have HB:Hid (∀W,SC W→Below w.heap.size w W):=Hi (fun W h=>by rw[hSC]at h;exact h.2.2.2)
 have hU:∀x:Nat,x<18446744073709551616→∀W,SC W→Calls Tryz.prog 184 #[.int .u64 x,.pointer (some ⟨w.heap.size,0,none⟩)] W fun r w'=>r= .returned (.int .u64 (uscN x hh lo k))∧SC w':=by
  intro x hx W h
  rw[hSC]at h
  refine(Tryz.uscale w.heap.size x hh lo k W hx PL.1 PL.2 hk2 h.1 h.2.1 h.2.2.1).mono ?_
  rintro e w' ⟨n,rfl,rfl⟩
  refine⟨rfl,?_⟩
  rw[hSC]
  exact⟨h.1,h.2.1,h.2.2.1,h.2.2.2.trans ⟨rfl,rfl,rfl,nR _,fun _ _=>rfl⟩⟩
 have CU1:=Hi (hU mn mnb)
 have CU2:=Hi (hU mx mxb)
 have CU3:=Hi (hU m mb)
 rw[←hun]at CU1
 rw[←hux]at CU2
 rw[←hum]at CU3
 clear hun hux hum hU hSC d0 d1 d2 bl2 PL
 go_upto_region 29 with ((first|(go_at_call 183;(with_reducible refine(CP.out _).mono ?_))|(go_at_call 182;(with_reducible refine CQ.out.mono ?_)));rintro e w' ⟨rfl,rfl⟩)
 go_upto_region 31 with (first|(go_at_call 184;(first|(with_reducible refine(CU1.out _ (by assumption)).mono ?_)|(with_reducible refine(CU2.out _ (by assumption)).mono ?_)|(with_reducible refine(CU3.out _ (by assumption)).mono ?_));rintro e w' ⟨rfl,HS⟩)|(go_at_call 185;(first|(with_reducible refine(C1.out _).mono ?_)|(with_reducible refine(C2.out _).mono ?_));rintro e w' ⟨rfl,rfl⟩)|(go_at_call 186;(with_reducible refine(C3.out _).mono ?_);rintro e w' ⟨rfl,rfl⟩)|(go_at_call 187;(with_reducible refine(C4.out _).mono ?_);rintro e w' ⟨rfl,rfl⟩)|(go_at_call 188;(with_reducible refine(C5.out _).mono ?_);rintro e w' ⟨rfl,rfl⟩))
 by_cases h1:dn≤dt*10
 ·have HR:=Hi (HR.out.trans (if_pos h1))
  have g1:(dn:Int)≤(dt:Int)*10:=by omega
  have g2:IntKind.u64.wrap ((dt:Int)*10)=(dt:Int)*10:=IntWalk.u64_in _ ⟨by omega,by omega⟩
  clear h1
  go_wp2
  go_ret2
  refine⟨?_,HB.out _ (by assumption)⟩
  rw[HR.out,show -(-P-1)=P+1 by omega]
  rfl
 ·have HR:=Hi (HR.out.trans (if_neg h1))
  have g1:¬((dn:Int)≤(dt:Int)*10):=by omega
  clear h1
  by_cases h2:dn<dx
  ·have HR:=Hi (HR.out.trans (if_pos h2))
   have g3:(dn:Int)<(dx:Int):=by omega
   go_wp2_with (first|(go_at_call 184;(first|(with_reducible refine(CU1.out _ (by assumption)).mono ?_)|(with_reducible refine(CU2.out _ (by assumption)).mono ?_)|(with_reducible refine(CU3.out _ (by assumption)).mono ?_));rintro e w' ⟨rfl,HS⟩)|(go_at_call 188;(with_reducible refine(C5.out _).mono ?_);rintro e w' ⟨rfl,rfl⟩))
   go_ret2
   refine⟨?_,HB.out _ (by assumption)⟩
   rw[HR.out]
   rfl
  ·have HR:=Hi (HR.out.trans (if_neg h2))
   have g3:¬((dn:Int)<(dx:Int)):=by omega
   go_wp2
   go_ret2
   refine⟨?_,HB.out _ (by assumption)⟩
   rw[HR.out]
   rfl
end Go.Proofs
set_option linter.unusedVariables false
set_option linter.unusedSimpArgs false
set_option maxRecDepth 1000000
set_option maxHeartbeats 40000000
namespace Go.Pf
open Go.Lib Go.RowKit Go.Zw
def u8V (b:UInt8):Value:= .int .u8 (b.toNat:Int)
/-- The digit of u at place t from the left, as a number. -/
def dgl (u t:Nat):Nat:=48+u/10^(nDigits u-1-t)%10
theorem dg_nat (u j:Nat):(dg u j).toNat=48+u/10^j%10:=by
 unfold dg
 rw[UInt8.toNat_ofNat']
 have:u/10^j%10<10:=Nat.mod_lt _ (by decide)
 omega
theorem dgl_tens {u z t:Nat}(h:1≤u) (ht:t<nDigits u):(u*10^z)/10^(nDigits (u*10^z)-1-t)%10=u/10^(nDigits u-1-t)%10:=by
 rw[nDigits_tens h,show nDigits u+z-1-t=z+(nDigits u-1-t) by omega,Nat.pow_add,←Nat.div_div_eq_div_mul,Nat.mul_div_cancel _ (Nat.pow_pos (by decide))]
structure SDig (d:Nat) (p:Int) (b:Nat) (w:World) (e:Ending) (w':World):Prop where
 ex:∃u z:Nat,d=u*10^z∧u%10≠0∧e= .returned (.tuple #[.int .i64 ((nDigits d:Int)+p),.int .i64 (nDigits u:Nat)])∧∀t,t<nDigits u→w'.cell? ⟨b,t,none⟩=some (.int .u8 (dgl u t:Nat))
 bel:Below b w w'
end Go.Pf
namespace Go.Proofs
open Go.RowKit Go.Pf Go.Lib Go.Sort Go.Zw
theorem Tryz.setDigits (b d nd0:Nat) (p:Int) (w:World) (h1:1≤d) (h2:d<18446744073709551616) (hnd:nd0=nDigits d) (hn:nd0≤20) (hp: -5000≤p) (hp2:p≤5000) (hH:Hid (Holds u8V w b 0 (Array.replicate nd0 (0:UInt8)))):
 Calls Tryz.prog 135 #[.slice (some ⟨b,0,none⟩) 32 32,.int .u64 d,.int .i64 p,.int .i64 nd0] w (SDig d p b w):=by
 have HN:=Hi hnd
 have CF:Hid (∀W,W=w→Calls Tryz.prog 148 #[.slice (some ⟨b,0,none⟩) nd0 32,.int .u64 d] W fun e w'=>e= .returned (.tuple #[])∧Below b w w'∧∀t,t<nd0→w'.cell? ⟨b,t,none⟩=some (.int .u8 (48+d/10^(nd0-1-t)%10:Nat))):=Hi (by
  rintro W rfl
  have hs:(Array.replicate nd0 (0:UInt8)).size=nd0:=Array.size_replicate
  have c:=Tryz.internal_strconv_formatBase10 b 0 32 d (Array.replicate nd0 0) W hH.out (by rw[hs,HN.out];exact lt_pow_nDigits d) h2 (by rw[hs];omega)
  rw[hs]at c
  refine c.mono ?_
  rintro e w' ⟨rfl,n,v',dk,rfl,hi⟩
  refine⟨rfl,?_,?_⟩
  ·have:=below_putRow (enc:=u8V) (q:=0) (d:=dk) (Below.refl b W) (Nat.le_refl b)
   exact bel_drewN this
  ·intro t ht
   have hh:=(holds_putRow u8V W b 0 _ dk hH.out (by rw[hi.size,hs])) t (by rw[hi.size];exact ht)
   have hd:=hi.done t (Nat.zero_le _) ht
   have:=hh.1
   rw[hd,Nat.zero_add]at this
   unfold u8V at this
   rw[dg_nat]at this
   exact this)
 clear hnd
 have e1:decide ((nd0:Int)≤32)=true:=decide_eq_true (by omega)
 go_enter Tryz.func135,Tryz.ntmps135
 go_upto_region 3 with (go_at_call 148;(with_reducible refine(CF.out _ rfl).mono ?_);rintro e w1 ⟨rfl,hb1,hc1⟩)
 have HB1:=Hi hb1
 have HC1:=Hi hc1
 clear hb1 hc1
 go_wp2
 go_loop [3] (fun v=>∃u z:Nat,1≤u∧d=u*10^z∧v= .int .i64 (nDigits u:Nat)) (fun v=>(RowKit.intOf v).toNat)
 case atStart=>exact⟨d,0,h1,by simp,by rw[HN.out]⟩
 case round=>
  obtain⟨u,z,hu1,hd,rfl⟩:=hrel
  obtain⟨k,hk⟩:∃k,nDigits u=k+1:=⟨nDigits u-1,by have:=nDigits_pos u;omega⟩
  have HD:=Hi hd
  have HK:=Hi hk
  have hz:nd0=k+1+z:=by rw[HN.out,hd,nDigits_tens hu1 z,hk]
  have hc:=HC1.out k (by omega)
  rw[show nd0-1-k=z by omega,hd,Nat.mul_div_cancel _ (Nat.pow_pos (by decide))]at hc
  obtain⟨g,hg⟩:∃g,g=u %10:=⟨_,rfl⟩
  rw[←hg]at hc
  have HG:=Hi hg
  have HZ:=Hi hz
  have hk32:(k:Int)<32:=by omega
  have hk0:(0:Int)<(k:Int)+1:=by omega
  rw[hk]
  clear hd hg hz hk
  have ek:(((k+1:Nat):Int))=(k:Int)+1:=by omega
  by_cases h0:g=0
  ·subst h0
   go_wp2
   go_round
   case rel=>
    have h10:¬u<10:=by intro h;have:=HG.out;omega
    refine⟨u/10,z+1,by omega,?_,?_⟩
    ·rw[Nat.pow_succ,Nat.mul_comm (10^z) 10,←Nat.mul_assoc,Nat.div_mul_cancel (Nat.dvd_of_mod_eq_zero HG.out.symm)]
     exact HD.out
    ·have:=HK.out
     rw[nDigits_big h10]at this
     rw[show nDigits (u/10)=k by omega]
   case measure=>show(k:Int).toNat<((k+1:Nat):Int).toNat;omega
  ·have g1:(((48+g:Nat):Int)==48)=false:=by rw[Bool.eq_false_iff];intro h;have:=eq_of_beq h;omega
   go_wp2
   go_ret2
   refine⟨⟨u,z,HD.out,by rw[←HG.out];exact h0,?_,?_⟩,HB1.out⟩
   ·rw[HK.out,←HN.out];rfl
   ·intro t ht
    have hc2:=HC1.out t (by have:=HK.out;have:=HZ.out;omega)
    rw[HN.out,HD.out,dgl_tens hu1 ht]at hc2
    exact hc2
end Go.Proofs
set_option linter.unusedVariables false
set_option linter.unusedSimpArgs false
set_option maxRecDepth 1000000
set_option maxHeartbeats 40000000
namespace Go.Pf
open Go.RowKit
def u8n (n:Nat):Value:= .int .u8 (n:Int)
/-- A row of 24 bytes whose first ones are known. -/
def DR (w:World) (g:Nat) (xs:List Nat):Prop:=∃cur:Array Value,w.heap[g]? =some (.cells cur 5 (0,0))∧cur.size=24∧cur.toList.take xs.length=xs.map u8n
structure FE (w0:World) (g b:Nat) (ds xs:List Nat) (W:World):Prop where
 row:DR W g xs
 dig:∀t (h:t<ds.length),W.cell? ⟨b,t,none⟩=some (u8n ds[t])
 bel:Below g w0 W
 ne:b≠g
 gl:g<W.heap.size
 bl:b<W.heap.size
theorem FE.alloc {w0 W:World} {g b:Nat} {ds xs:List Nat}(h:FE w0 g b ds xs W) (o:Obj):FE w0 g b ds xs (W.alloc o):=by
 obtain⟨cur,h1,h2,h3⟩:=h.row
 have gl:=h.gl
 have bl:=h.bl
 refine⟨⟨cur,(heap_alloc_old W o gl).trans h1,h2,h3⟩,?_,h.bel.alloc (Nat.le_of_lt gl) _,h.ne,by simp;omega,by simp;omega⟩
 intro t ht
 exact(World.cell?_of_block (heap_alloc_old W o bl)).trans (h.dig t ht)
end Go.Pf
namespace Go.Proofs
open Go.RowKit Go.Pf Go.Sort
theorem _root_.Go.Pf.FE.app {w0 W:World} {g b:Nat} {ds xs:List Nat}(h:FE w0 g b ds xs W) (news:List Nat) (hroom:xs.length+news.length≤24) {ops:Array Oper} {rest:List Oper} {o:Oper} {a:Act} {Q:Exit→Act→World→Prop} (hgd:o.guard=none) (s x:Operand)
 (ho:o.op= .call {callee:= .builtin .append,args:= #[s,x],argTypes:= #[88,88]}) (n:Nat) (hn:n=xs.length) (hs:a.eval s= .slice (some ⟨g,0,none⟩) n 24)
 (ad:Addr) (m c:Nat) (hx:a.eval x= .slice (some ad) m c) (hl:news.length=m) (hnews:∀j (h:j<news.length),W.cell? (ad.add j)=some (u8n news[j]))
 (hk:∀w',FE w0 g b ds (xs++news) w'→wpList Tryz.prog ops Q rest (a.put o.dst (.slice (some ⟨g,0,none⟩) (n+m) 24)) w'):wpList Tryz.prog ops Q (o::rest) a W:=by
 obtain⟨cur,h1,h2,h3⟩:=h.row
 obtain⟨i0,hi⟩:∃i,Tryz.prog.info? 5=some i:=⟨_,rfl⟩
 have hz1:i0.size=1:=by have:Tryz.prog.info? 5=some i0:=hi;revert this;intro this;cases this;rfl
 have hc:cur.toList.length=24:=by rw[Array.length_toList];exact h2
 have hrun:=run_append_room (P:=Tryz.prog) W 88 o.type 5 i0 Tryz.underlying88 hi g n 24 cur h1 ad m c (news.map u8n) (by rw[hz1,List.length_map,hl,Nat.mul_one]) (by
  intro j u hj
  rw[List.getElem?_map]at hj
  cases hq:news[j]? with
  |none=>rw[hq]at hj;cases hj
  |some y=>
   rw[hq]at hj
   simp at hj
   subst hj
   have hlt:j<news.length:=(List.getElem?_eq_some_iff.1 hq).1
   rw[hnews j hlt]
   congr 1
   rw[(List.getElem?_eq_some_iff.1 hq).2]) (by intro u hu;obtain⟨y,_,rfl⟩:=List.mem_map.1 hu;rfl) (by omega) (by rw[hz1,List.length_map];omega)
 refine wpList_plain hgd fun K hK=>?_
 unfold Oper.wp
 simp[execOp,ho,resolve,invoke,builtin,hs,hx,hrun,Result.andThen]
 refine hK _ _ (hk _ ?_)
 rw[hz1,Nat.mul_one,hn]
 have blk:∀cs k,k≠g→(W.setRow g cs).heap[k]? =W.heap[k]?:=fun cs k hk=>setRow_other W g k cs hk
 have hsz:∀cs,(W.setRow g cs).heap.size=W.heap.size:=fun cs=>size_setRow W g cs
 refine⟨⟨_,setRow_heap W g cur _ 5 (0,0) h1,?_,?_⟩,?_,?_,h.ne,by rw[hsz];exact h.gl,by rw[hsz];exact h.bl⟩
 ·simp
  omega
 ·rw[h3,←List.append_assoc]
  simp only[List.toList_toArray,List.length_append,List.length_map,←List.append_assoc]
  rw[←List.map_append,List.take_left' (by simp)]
 ·intro t ht
  exact(World.cell?_of_block (blk _ b h.ne)).trans (h.dig t ht)
 ·refine h.bel.trans ⟨rfl,rfl,rfl,Nat.le_of_eq (hsz _).symm,fun k hk=>blk _ k (by omega)⟩
end Go.Proofs
set_option linter.unusedVariables false
set_option linter.unusedSimpArgs false
set_option maxRecDepth 1000000
set_option maxHeartbeats 40000000
namespace Go.Pf
open Go.RowKit
def headL:List Nat→List Nat
 |[]=>[48]
 |[a]=>[a]
 |a::r=>a::46::r
def expL (n:Nat):List Nat:=if n<10 then[48,n+48]else if n<100 then[n/10+48,n%10+48]else[n/100+48,n/10%10+48,n%10+48]
def sgnL (x:Int):Nat:=if x<0 then 45 else 43
def fltE (ds:List Nat) (x:Int):List Nat:=headL ds++[101,sgnL x]++expL x.natAbs
theorem headL_len {ds:List Nat}(h:1≤ds.length):(headL ds).length≤ds.length+1:=by
 match ds,h with
 |[a],_=>simp[headL]
 |a::c::r,_=>simp[headL]
theorem list_new (w:World) (news:List Nat):∀j (h:j<news.length),(w.alloc (.cells (news.map u8n).toArray 5)).cell? ((⟨w.heap.size,0,none⟩:Addr).add j)=some (u8n news[j]):=by
 intro j h
 rw[show (⟨w.heap.size,0,none⟩:Addr).add j=⟨w.heap.size,j,none⟩ by rw[Lib.add_plain,Nat.zero_add],cell_of_row _ _ _ _ _ _ (heap_alloc_new w _)]
 simp[h]
theorem one_new (w:World) (n:Nat):∀j (h:j<[n].length),(w.alloc (.cells #[u8n n] 5)).cell? ((⟨w.heap.size,0,none⟩:Addr).add j)=some (u8n [n][j]):=list_new w [n]
end Go.Pf
namespace Go.Proofs
open Go.RowKit Go.Pf Go.Sort
theorem Tryz.fmtE (g b L:Nat) (ds:List Nat) (dp:Int) (w:World) (hF:Hid (FE w g b ds [] w)) (hL:ds.length=L) (h1:1≤L) (h2:L≤17) (hp: -400≤dp) (hp2:dp≤400):
 Calls Tryz.prog 132 #[.slice (some ⟨g,0,none⟩) 0 24,.bool false,.slice (some ⟨b,0,none⟩) 32 32,.int .i64 dp,.int .i64 L,.int .i64 ((L:Int)-1),.int .u8 101,.bool true] w fun e w'=>e= .returned (.slice (some ⟨g,0,none⟩) (fltE ds (dp-1)).length 24)∧FE w g b ds (fltE ds (dp-1)) w':=by
 have HL:=Hi hL
 obtain⟨d0,r,hds⟩:∃d0 r,ds=d0::r:=by
  cases ds with
  |nil=>simp at hL;omega
  |cons a r=>exact⟨a,r,rfl⟩
 have HD:=Hi hds
 have dg0:w.cell? ⟨b,0,none⟩=some (.int .u8 ((ds[0]'(by omega):Nat):Int)):=hF.out.dig 0 (by omega)
 have e0:ds[0]'(by omega)=d0:=by simp[hds]
 rw[e0]at dg0
 clear e0 hds hL
 have eL:((L:Int)!=0)=true:=by rw[bne_iff_ne];omega
 go_enter Tryz.func132,Tryz.ntmps132
 go_upto_if 92 with (at_builtin;refine FE.app (hF.out.alloc (.cells #[u8n d0] 5)) [d0] (by simp) rfl _ _ rfl 0 rfl rfl ⟨w.heap.size,0,none⟩ 1 1 rfl rfl (one_new w d0) ?_;intro w1 hF1)
 go_cut [0,20,21]from 23 (fun v0 v20 v21 wx=>∃n xs,v0= .slice (some ⟨g,0,none⟩) n 24∧n=xs.length∧xs=headL ds∧FE w g b ds xs wx)
 case first=>
  by_cases hl1:L=1
  ·subst hl1
   have hr:r=[]:=by have h:=HL.out;rw[HD.out]at h;exact List.eq_nil_of_length_eq_zero (by simpa using h)
   go_wp2
   go_meet
   refine⟨1,[d0],rfl,rfl,?_,hF1⟩
   rw[HD.out,hr];rfl
  ·have hl2:(0:Int)<(L:Int)-1:=by omega
   have hr:r≠[]:=by intro h;have h2:=HL.out;rw[HD.out,h]at h2;simp at h2;omega
   clear hl1
   go_upto_region 28 with (at_builtin;refine FE.app (hF1.alloc (.cells #[u8n 46] 5)) [46] (by simp) rfl _ _ rfl 1 rfl rfl ⟨w1.heap.size,0,none⟩ 1 1 rfl rfl (one_new w1 46) ?_;intro w2 hF2)
   have m1:min (L:Int) ((L:Int)-1+1)=(L:Int):=by omega
   have l1:(1:Int)<(L:Int):=by omega
   have HR:Hid (r.length+1=L):=Hi (by have h:=HL.out;rw[HD.out]at h;simpa using h)
   have HT:Hid (∀W,FE w g b ds [d0,46] W→∀j (h:j<r.length),W.cell? ((⟨b,1,none⟩:Addr).add j)=some (u8n r[j])):=Hi (by
    intro W hW j hj
    have hb:=HL.out
    have:=hW.dig (j+1) (by rw[hb];have:=HR.out;omega)
    rw[show (⟨b,1,none⟩:Addr).add j=⟨b,j+1,none⟩ by rw[Lib.add_plain,Nat.add_comm]]
    rw[this]
    congr 2
    have h2:ds=d0::r:=HD.out
    subst h2
    rfl)
   go_upto_region 33 with (at_builtin;refine FE.app hF2 r (by have:=HR.out;simp;omega) rfl _ _ rfl 2 rfl rfl ⟨b,1,none⟩ (L-1) 31 rfl (by have:=HR.out;omega) (HT.out _ hF2) ?_;intro w3 hF3)
   have z1:(L:Int)-1+1-(L:Int)=0:=by omega
   go_wp2
   go_loop [0,114](fun u v=>u= .slice (some ⟨g,0,none⟩) (2+(L-1)) 24∧v= .int .i64 0) (fun _ _=>0)
   case atStart=>exact⟨rfl,rfl⟩
   case round=>
    obtain⟨rfl,rfl⟩:=hrel
    go_wp2
    go_meet
    refine⟨2+(L-1),[d0,46]++r,rfl,?_,?_,hF3⟩
    ·have:=HR.out;simp;omega
    ·rw[HD.out]
     cases r with
     |nil=>exact absurd rfl hr
     |cons a q=>rfl
 case rest=>
 obtain⟨n,xs,rfl,hn0,hxs0,hF2⟩:=hcut
 have HNX:=Hi hn0
 have HXS:=Hi hxs0
 clear hn0 hxs0
 have hn:n≤18:=by have h1:=HNX.out;have h2:=HXS.out;have:=headL_len (ds:=ds) (by have:=HL.out;omega);rw[h1,h2];have:=HL.out;omega
 have hnx:xs.length≤18:=by have:=HNX.out;omega
 clear hn
 go_upto_if 129 with (at_builtin;refine FE.app (hF2.alloc (.cells #[u8n 101] 5)) [101] (by simp;omega) rfl _ _ rfl n HNX.out rfl ⟨wc.heap.size,0,none⟩ 1 1 rfl rfl (one_new wc 101) ?_;intro w3 hF3)
 obtain⟨x,hx⟩:∃x,x=dp-1:=⟨_,rfl⟩
 obtain⟨m,hm⟩:∃m,m=x.natAbs:=⟨_,rfl⟩
 obtain⟨sg,hsg⟩:∃s,s=sgnL x:=⟨_,rfl⟩
 have HSG:=Hi hsg
 have HM:=Hi hm
 have HX:=Hi hx
 have mb:m≤401:=by omega
 have hsb:sg<256:=by rw[hsg];unfold sgnL;split<;>decide
 go_cut [19,22]from 23 (fun v19 v22 wx=>v19= .int .u8 (sg:Int)∧v22= .int .i64 (m:Int)∧wx=w3)
 case first=>
  by_cases hneg:dp-1<0
  ·have e1:-(dp-1)=(m:Int):=by omega
   have e2:sg=45:=by rw[hsg,hx];unfold sgnL;rw[if_pos hneg]
   subst e2
   clear hx hm hsg
   go_wp2
   go_meet
   exact⟨rfl,rfl,rfl⟩
  ·have e1:(dp-1)=(m:Int):=by omega
   have e2:sg=43:=by rw[hsg,hx];unfold sgnL;rw[if_neg hneg]
   subst e2
   clear hx hm hsg
   go_wp2
   go_meet
   exact⟨rfl,rfl,rfl⟩
 case rest=>
 obtain⟨rfl,rfl,rfl⟩:=hcut
 clear hx hm hsg
 go_upto_region 47 with (at_builtin;refine FE.app (hF3.alloc (.cells #[u8n sg] 5)) [sg] (by simp;omega) rfl _ _ rfl (n+1) (by have:=HNX.out;simp;omega) rfl ⟨wc.heap.size,0,none⟩ 1 1 rfl rfl (one_new wc sg) ?_;intro w4 hF4)
 have HE:Hid (∀l,l=expL m→xs++[101]++[sg]++l=fltE ds (dp-1)):=Hi (by
  intro l hl
  have h2:=HXS.out
  have h3:=HX.out
  have h4:=HM.out
  have h5:=HSG.out
  unfold fltE
  rw[hl,h2,h5,h4,h3]
  simp[List.append_assoc])
 have HN2:Hid (n+1+1=(xs++[101]++[sg]).length):=Hi (by have:=HNX.out;simp;omega)
 by_cases ha:m<10
 ·have ha':(m:Int)<10:=by omega
  have hl:=HE.out [48,m+48] (by unfold expL;rw[if_pos ha])
  have HL2:=Hi hl
  have HLen:Hid ((fltE ds (dp-1)).length=n+1+1+2):=Hi (by rw[←hl,List.length_append,←HN2.out];rfl)
  clear hl
  go_upto_region 51 with (at_builtin;refine FE.app (hF4.alloc _) [48,m+48] (by simp;omega) rfl _ _ rfl (n+1+1) HN2.out rfl ⟨_,0,none⟩ 2 2 rfl rfl (list_new _ [48,m+48]) ?_;intro w5 hF5)
  rw[HL2.out]at hF5
  go_wp2
  go_ret
  refine⟨?_,hF5⟩
  rw[HLen.out]
  rfl
 have ha':¬((m:Int)<10):=by omega
 by_cases hb:m<100
 ·have hb':(m:Int)<100:=by omega
  have hl:=HE.out [m/10+48,m%10+48] (by unfold expL;rw[if_neg ha,if_pos hb])
  have HL2:=Hi hl
  have HLen:Hid ((fltE ds (dp-1)).length=n+1+1+2):=Hi (by rw[←hl,List.length_append,←HN2.out];rfl)
  clear hl
  go_upto_region 51 with (at_builtin;refine FE.app (hF4.alloc _) [m/10+48,m%10+48] (by simp;omega) rfl _ _ rfl (n+1+1) HN2.out rfl ⟨_,0,none⟩ 2 2 rfl rfl (list_new _ [m/10+48,m%10+48]) ?_;intro w5 hF5)
  rw[HL2.out]at hF5
  go_wp2
  go_ret
  refine⟨?_,hF5⟩
  rw[HLen.out]
  rfl
 ·have hb':¬((m:Int)<100):=by omega
  have hl:=HE.out [m/100+48,m/10%10+48,m%10+48] (by unfold expL;rw[if_neg ha,if_neg hb])
  have HL2:=Hi hl
  have HLen:Hid ((fltE ds (dp-1)).length=n+1+1+3):=Hi (by rw[←hl,List.length_append,←HN2.out];rfl)
  clear hl
  go_upto_region 51 with (at_builtin;refine FE.app (hF4.alloc _) [m/100+48,m/10%10+48,m%10+48] (by simp;omega) rfl _ _ rfl (n+1+1) HN2.out rfl ⟨_,0,none⟩ 3 3 rfl rfl (list_new _ [m/100+48,m/10%10+48,m%10+48]) ?_;intro w5 hF5)
  rw[HL2.out]at hF5
  go_wp2
  go_ret
  refine⟨?_,hF5⟩
  rw[HLen.out]
  rfl
end Go.Proofs
set_option linter.unusedVariables false
set_option linter.unusedSimpArgs false
set_option maxRecDepth 1000000
set_option maxHeartbeats 4000000
namespace Go.Zw
open Go.Pf
def kkI (sk:Bool) (u:Nat):Int:= -((u:Int)-1074+(-pUnit sk u)*108853/32768+3)
def kkB (sk:Bool) (u:Nat):Bool:=decide (-6≤kkI sk u)&&decide (kkI sk u≤ -2)&&decide (-326≤pUnit sk u)&&decide (pUnit sk u≤340)
theorem kk_all:(List.range 2046).all (fun u=>kkB false u&&kkB true u)=true:=by kernel_rfl
theorem kk_ok (sk:Bool) {u:Nat}(h:u<2046):-6≤kkI sk u∧kkI sk u≤ -2∧ -326≤pUnit sk u∧pUnit sk u≤340:=by
 have h1:=List.all_eq_true.1 kk_all u (List.mem_range.2 h)
 rw[Bool.and_eq_true]at h1
 cases sk
 ·have h2:=h1.1
  unfold kkB at h2
  simp only[Bool.and_eq_true,decide_eq_true_eq]at h2
  exact⟨h2.1.1.1,h2.1.1.2,h2.1.2,h2.2⟩
 ·have h2:=h1.2
  unfold kkB at h2
  simp only[Bool.and_eq_true,decide_eq_true_eq]at h2
  exact⟨h2.1.1.1,h2.1.1.2,h2.1.2,h2.2⟩
theorem uscN_lt5 {x hi lo k:Nat}(hh:x*hi/18446744073709551616<18446744073709551616) (hk:5≤k):uscN x hi lo k<2^59:=by
 have key:∀H,H<18446744073709551616→H/2^k<2^59:=by
  intro H h
  have h1:H/2^k≤H/2^5:=Nat.div_le_div_left (Nat.pow_le_pow_right (by decide) hk) (by decide)
  omega
 unfold uscN
 split
 ·refine Nat.or_lt_two_pow (key _ (Nat.mod_lt _ (by decide))) ?_
  split<;>decide
 ·exact Nat.or_lt_two_pow (key _ hh) (by decide)
theorem hi_prod {x hi:Nat}(hx:x<18446744073709551616) (hh:hi<18446744073709551616):x*hi/18446744073709551616<18446744073709551616:=by
 refine Nat.div_lt_of_lt_mul ?_
 exact Nat.mul_lt_mul'' hx hh
/-- The length of the mantissa's shift. -/
theorem shf {r:Nat}(h0:0<r) (h:r<9007199254740992):∃s,s=64-Lib.bitLen r∧Lib.bitLen r+s=64∧11≤s∧s≤63∧9223372036854775808≤r*2^s∧r*2^s+2^(s-1)<18446744073709551616∧2^s≤r*2^s∧(4503599627370496≤r→s=11):=by
 have b:=Lib.bitLenAux_bounds 64 r (by omega) (by omega)
 have e:Lib.bitLenAux 64 r=Lib.bitLen r:=rfl
 rw[e]at b
 obtain⟨b1,b2,b3⟩:=b
 generalize Lib.bitLen r=L at *
 have hL:L≤53:=by
  rcases Nat.lt_or_ge 53 L with h'|h'
  ·exfalso
   have:2^53≤2^(L-1):=Nat.pow_le_pow_right (by decide) (by omega)
   omega
  ·exact h'
 refine⟨64-L,rfl,by omega,by omega,by omega,?_,?_,Nat.le_mul_of_pos_left _ h0,?_⟩
 ·have h1:2^(L-1)*2^(64-L)≤r*2^(64-L):=Nat.mul_le_mul_right _ b2
  rw[←Nat.pow_add,show L-1+(64-L)=63 by omega]at h1
  omega
 ·have h1:(r+1)*2^(64-L)≤2^L*2^(64-L):=Nat.mul_le_mul_right _ b3
  rw[←Nat.pow_add,show L+(64-L)=64 by omega,Nat.add_mul,Nat.one_mul]at h1
  have h2:2^(64-L)=2*2^(64-L-1):=by rw[←Nat.pow_succ'];congr 1;omega
  have h3:=Nat.two_pow_pos (64-L-1)
  omega
 ·intro h4
  have:¬L≤52:=by
   intro h5
   have:2^L≤2^52:=Nat.pow_le_pow_right (by decide) h5
   omega
  omega
/-- uscale at a multiple of the last place. -/
theorem usc_at {r u s j q i k:Nat} {P e:Int}(hu:u<2046) (hs:11≤s) (hs2:s≤63) (he:e=(u:Int)-1074-s) (hj:j≤2) (hP: -326≤P) (hP2:P≤340) (hi:348-P=(i:Int)) (hk:(k:Int)= -(e+(-P)*108853/32768+3)) (hk5:5≤k)
 (hx:4611686018427387904≤q*2^(s-j)) (hx2:q*2^(s-j)<18446744073709551616):
 uscN (q*2^(s-j)) (powHi i) (powLo i) k=unr (q*gC P u) (2^j*gA P):=by
 obtain⟨i',hi'⟩:∃i':Nat,(i':Int)=345-P:=⟨(345-P).toNat,by omega⟩
 have ei:i=i'+3:=by omega
 have ex:q*2^(s-j)=128*(q*2^(s-j-7)):=by
  rw[show s-j=s-j-7+7 by omega,Nat.pow_add,Nat.add_sub_cancel]
  show q*(2^(s-j-7)*128)=_
  rw[←Nat.mul_assoc,Nat.mul_comm]
 rw[ex]at hx hx2⊢
 rw[ei]
 refine usc_val (e:=e) (p:=-P) (by omega) hx hx2 hk5 (Nat.mul_pos (Nat.two_pow_pos _) (gA_pos _)) (by omega) ?_ (by omega) (by omega) ?_
 ·unfold pLog
  rw[show ((i':Nat):Int)-345= -P by omega]
  exact hk
 ·rw[←ex]
  unfold gA gC KZ
  have hKE:=KE_eq
  rw[show (- -P)=P by omega]
  have e4:2^(s-j)*2^e.toNat*2^j*2^KE=2^u*2^(-e).toNat:=by
   rw[←Nat.pow_add,←Nat.pow_add,←Nat.pow_add,←Nat.pow_add]
   congr 1
   omega
  generalize 10^(-P).toNat=A
  generalize 10^P.toNat=B
  generalize 2^(s-j)=S at *
  generalize 2^e.toNat=E at *
  generalize 2^j=J at *
  generalize 2^KE=Z at *
  generalize 2^u=U at *
  generalize 2^(-e).toNat=F at *
  calc q*S*(A*E)*(J*(B*Z))=q*A*B*(S*E*J*Z):=by ac_rfl
   _=q*A*B*(U*F):=by rw[e4]
   _=q*(A*U)*(B*F):=by ac_rfl
end Go.Zw
set_option linter.unusedVariables false
set_option linter.unusedSimpArgs false
set_option maxRecDepth 1000000
set_option maxHeartbeats 4000000
namespace Go.Zw
open Go.Pf
theorem sk_iff {b r u s:Nat}(h:FltOk b r u) (hs:11≤s) (h52:4503599627370496≤r→s=11) (e:Int) (he:e=(u:Int)-1074-s):skB r u=true↔(r*2^s=9223372036854775808∧ -1085<e):=by
 unfold skB
 rw[decide_eq_true_eq]
 constructor
 ·rintro ⟨h1,h2⟩
  have:=h52 (by omega)
  subst this
  exact⟨by rw[h1],by omega⟩
 ·rintro ⟨h1,h2⟩
  have hu:0<u:=by omega
  have hr:4503599627370496≤r:=by rcases h.nrm with h'|h';omega;exact h'
  have:=h52 hr
  subst this
  exact⟨by omega,hu⟩
theorem pick_is {r u P un ux um od:Nat}{M a c:Nat} {sk:Bool} (hM:M=r*c) (hc:0<c) (ha:0<a) (hr:0<r)
 (hun:un=if sk then unr ((4*r-1)*c) (4*a) else unr ((2*r-1)*c) (2*a)) (hux:ux=unr ((2*r+1)*c) (2*a)) (hum:um=unr (r*c) a) (hod:od=r%2) (Q:Int):
 sfR un ux um od Q=((pPick M a (dMin M a c sk (odB r)) (dMax M a c (odB r))).1,Q+((pPick M a (dMin M a c sk (odB r)) (dMax M a c (odB r))).2:Nat)):=by
 have e0:(if odB r=true then 1 else 0)=od:=by
  unfold odB
  rw[hod]
  rcases Nat.mod_two_eq_zero_or_one r with e|e<;>rw[e]<;>rfl
 have e1:dMin M a c sk (odB r)=(un+od+3)/4:=by
  unfold dMin
  rw[e0,hun,hM]
  congr 3
  have g1:4*(r*c)-c=(4*r-1)*c:=by rw[Nat.sub_mul,Nat.one_mul,Nat.mul_assoc]
  have g2:2*(r*c)-c=(2*r-1)*c:=by rw[Nat.sub_mul,Nat.one_mul,Nat.mul_assoc]
  rw[g1,g2]
 have e2:dMax M a c (odB r)=(ux-od)/4:=by
  unfold dMax
  rw[e0,hux,hM]
  have g1:2*(r*c)+c=(2*r+1)*c:=by rw[Nat.add_mul,Nat.one_mul,Nat.mul_assoc]
  rw[g1]
 have e3:rndN M a=(um+1+um/4 %2)/4:=by
  rw[hum,unr_rnd _ _ ha,hM]
  rfl
 unfold sfR pPick
 rw[e1,e2,e3]
 split
 ·rfl
 ·split<;>simp
end Go.Zw
namespace Go.Proofs
open Go.RowKit Go.Pf Go.Zw
theorem Tryz.short (b r u s:Nat) (e:Int) (w:World) (h:FltOk b r u) (hs:s=64-Lib.bitLen r) (he:e=(u:Int)-1074-s) (hT:Hid (Tab16 w)) (h11:10<w.heap.size):
 Calls Tryz.prog 142 #[.int .u64 ((r*2^s:Nat):Int),.int .i64 e] w fun x w'=>x= .returned (.tuple #[.int .u64 (pDig r u).1,.int .i64 (pUnit (skB r u) u+((pDig r u).2:Nat))])∧Below w.heap.size w w':=by
 obtain⟨s',hs',hL,s11,s63,m63,m64,hle,h52⟩:=shf h.r0 h.r53
 have hss:s'=s:=hs'.trans hs.symm
 rw[hss]at hL s11 s63 m63 m64 hle h52
 clear hs' hss s'
 obtain⟨P,hP⟩:∃P,P=pUnit (skB r u) u:=⟨_,rfl⟩
 obtain⟨k1,k2,k3,k4⟩:=kk_ok (skB r u) h.u2
 have hkk:kkI (skB r u) u= -((u:Int)-1074+(-P)*108853/32768+3):=by unfold kkI;rw[hP]
 rw[hkk]at k1 k2
 rw[←hP]at k3 k4
 obtain⟨i,hi⟩:∃i:Nat,348-P=(i:Int):=⟨(348-P).toNat,by omega⟩
 obtain⟨k,hk⟩:∃k:Nat,(k:Int)= -(e+(-P)*108853/32768+3):=⟨(-(e+(-P)*108853/32768+3)).toNat,by omega⟩
 have hk5:5≤k:=by omega
 have hk63:k<64:=by omega
 have PL:=pow_lt i
 have hc:0<gC P u:=gC_pos _ _
 have ha:0<gA P:=gA_pos _
 have r0:=h.r0
 have u2:=h.u2
 have p1:2^s=2*2^(s-1):=by rw[←Nat.pow_succ'];congr 1;omega
 have p2:2^s=4*2^(s-2):=by
  rw[show (4:Nat)=2^2 from rfl,←Nat.pow_add];congr 1;omega
 have q2:r*2^s+2^(s-1)=(2*r+1)*2^(s-1):=by rw[p1,Nat.add_mul,Nat.one_mul];congr 1;ac_rfl
 have q1:r*2^s-2^(s-1)=(2*r-1)*2^(s-1):=by rw[p1,Nat.sub_mul,Nat.one_mul];congr 1;ac_rfl
 have q3:r*2^s-2^(s-2)=(4*r-1)*2^(s-2):=by rw[p2,Nat.sub_mul,Nat.one_mul];congr 1;ac_rfl
 have g0:=Nat.two_pow_pos (s-1)
 have g1:=Nat.two_pow_pos (s-2)
 have U:=fun (q j:Nat) hj hx hx2=>usc_at (r:=r) (q:=q) (j:=j) h.u2 s11 s63 he hj k3 k4 hi hk hk5 hx hx2
 have V0:uscN (r*2^s) (powHi i) (powLo i) k=unr (r*gC P u) (gA P):=by
  have:=U r 0 (by decide) (by rw[Nat.sub_zero];omega) (by rw[Nat.sub_zero];omega)
  rwa[Nat.sub_zero,Nat.pow_zero,Nat.one_mul]at this
 have V1:uscN (r*2^s+2^(s-1)) (powHi i) (powLo i) k=unr ((2*r+1)*gC P u) (2*gA P):=by
  rw[q2]
  exact U (2*r+1) 1 (by decide) (by rw[←q2];omega) (by rw[←q2];omega)
 have V2:uscN (r*2^s-2^(s-1)) (powHi i) (powLo i) k=unr ((2*r-1)*gC P u) (2*gA P):=by
  rw[q1]
  exact U (2*r-1) 1 (by decide) (by rw[←q1];omega) (by rw[←q1];omega)
 have V3:uscN (r*2^s-2^(s-2)) (powHi i) (powLo i) k=unr ((4*r-1)*gC P u) (4*gA P):=by
  rw[q3]
  exact U (4*r-1) 2 (by decide) (by rw[←q3];omega) (by rw[←q3];omega)
 obtain⟨un,hun⟩:∃n,n=uscN (if skB r u then r*2^s-2^(s-2) else r*2^s-2^(s-1)) (powHi i) (powLo i) k:=⟨_,rfl⟩
 obtain⟨ux,hux⟩:∃n,n=uscN (r*2^s+2^(s-1)) (powHi i) (powLo i) k:=⟨_,rfl⟩
 obtain⟨um,hum⟩:∃n,n=uscN (r*2^s) (powHi i) (powLo i) k:=⟨_,rfl⟩
 have hod:r*2^s/2^s%2=r%2:=by rw[Nat.mul_div_cancel _ (Nat.two_pow_pos s)]
 have B:∀x,x<18446744073709551616→uscN x (powHi i) (powLo i) k<1152921504606846000:=fun x hx=>by
  have:=uscN_lt5 (lo:=powLo i) (hi_prod hx PL.1) hk5
  omega
 have R:=pick_is (u:=u) (P:=0) (M:=r*gC P u) (sk:=skB r u) (un:=un) (ux:=ux) (um:=um) (od:=r%2) rfl hc ha r0 (by rw[hun];cases skB r u<;>simp[V2,V3]) (by rw[hux,V1]) (by rw[hum,V0]) rfl P
 have hun2:un<1152921504606846000:=by rw[hun];refine B _ ?_;split<;>omega
 have hox:r%2≤ux:=by
  have:0<ux:=by rw[hux,V1];exact unr_pos (by omega) (Nat.mul_pos (by omega) hc)
  omega
 have C:=Tryz.shortFloat (r*2^s) s i k e (skB r u) P w m63 m64 s11 s63 (by
   rcases h.nrm with hu|hr
   ·omega
   ·have:=h52 hr
    omega) (by omega) (sk_iff h s11 h52 e he) (by rw[hP,show e+(s:Int)=(u:Int)-1074 by omega];rfl) hi (by omega) hk hk63 hk5 hT h11 un ux um (r%2) hun hux hum hod.symm hox hun2 (by rw[hux];exact B _ m64) (by rw[hum];exact B _ (by omega))
 rw[R]at C
 refine C.mono ?_
 rintro x w' ⟨rfl,hb⟩
 refine⟨?_,hb⟩
 unfold pDig
 rw[←hP]
end Go.Proofs
set_option linter.unusedVariables false
set_option linter.unusedSimpArgs false
set_option maxRecDepth 1000000
/- The text of FormatFloat, cut, without its point, and its exponent as a number. -/
namespace Go.Zw
open Go.Pf Go.Lib
def dsN (U : Nat) : List Nat := (decDigits U).map UInt8.toNat
def eA (U : Nat) : List UInt8 := (headL (dsN U)).map UInt8.ofNat
def eB (x : Int) : List UInt8 := (sgnL x :: expL x.natAbs).map UInt8.ofNat
theorem eTxt (U : Nat) (x : Int) : (fltE (dsN U) x).map UInt8.ofNat = eA U ++ 101 :: eB x := by
  unfold fltE eA eB
  rw [List.map_append, List.map_append, List.append_assoc]
  rfl
theorem map_id8 (l : List UInt8) : (l.map UInt8.toNat).map UInt8.ofNat = l := by
  rw [List.map_map]
  conv => rhs; rw [← List.map_id l]
  apply List.map_congr_left
  intro c _
  simp
theorem eA_one {U : Nat} (h : nDigits U = 1) : eA U = decDigits U := by
  have hl := decDigits_length U
  unfold eA dsN
  match hd : decDigits U with
  | [] => exact absurd hd (dec_ne U)
  | [a] => simp [headL]
  | a :: c :: r => rw [hd] at hl; simp at hl; omega
theorem eA_more {U : Nat} (h : nDigits U ≠ 1) : ∃ a c r, decDigits U = a :: c :: r ∧ eA U = a :: 46 :: c :: r := by
  have hl := decDigits_length U
  match hd : decDigits U with
  | [] => exact absurd hd (dec_ne U)
  | [a] => rw [hd] at hl; simp at hl; omega
  | a :: c :: r =>
    refine ⟨a, c, r, rfl, ?_⟩
    unfold eA dsN
    rw [hd]
    show UInt8.ofNat a.toNat :: 46 :: UInt8.ofNat c.toNat :: (r.map UInt8.toNat).map UInt8.ofNat = _
    rw [map_id8]
    simp
theorem index_none {c : UInt8} : ∀ l : List UInt8, c ∉ l → index l [c] = -1
  | [], _ => rfl
  | b :: l, h => by
    rw [List.mem_cons, not_or] at h
    have h1 := index_none l h.2
    have h2 : (List.isPrefixOf [c] (b :: l)) = false := by simp [List.isPrefixOf, h.1]
    rw [index, h2, h1]
    rfl
theorem index_at {c : UInt8} : ∀ l m : List UInt8, c ∉ l → index (l ++ c :: m) [c] = l.length
  | [], m, _ => by
    show index (c :: m) [c] = 0
    rw [index]
    simp [List.isPrefixOf]
  | b :: l, m, h => by
    rw [List.mem_cons, not_or] at h
    have h1 := index_at l m h.2
    have h2 : (List.isPrefixOf [c] (b :: (l ++ c :: m))) = false := by simp [List.isPrefixOf, h.1]
    show index (b :: (l ++ c :: m)) [c] = _
    rw [index, h2, h1]
    have h3 : ((l.length : Int) == -1) = false := beq_false_of_ne (by omega)
    rw [h3]
    simp
theorem isD_not {l : List UInt8} (h : ∀ c ∈ l, isD c) {x : UInt8} (hx : ¬ isD x) : x ∉ l := fun hm => hx (h x hm)
theorem eA_no {U : Nat} {x : UInt8} (hx : ¬ isD x) (h46 : x ≠ 46) : x ∉ eA U := by
  have hd := dec_isD U
  by_cases h : nDigits U = 1
  · rw [eA_one h]; exact isD_not hd hx
  · obtain ⟨a, c, r, h1, h2⟩ := eA_more h
    rw [h2]
    rw [h1] at hd
    intro hm
    have hn := isD_not hd hx
    simp only [List.mem_cons, not_or] at hm hn
    rcases hm with h3 | h3 | h3 | h3
    · exact hn.1 h3
    · exact h46 h3
    · exact hn.2.1 h3
    · exact hn.2.2 h3
theorem eCut (U : Nat) (x : Int) : cut (eA U ++ 101 :: eB x) [101] = (eA U, eB x, true) := by
  have h := index_at (c := 101) (eA U) (eB x) (eA_no (by intro h; have := h.2; exact absurd this (by decide)) (by decide))
  unfold cut
  rw [h, if_pos (by omega), Int.toNat_natCast]
  rw [List.take_left' rfl]
  have : (eA U ++ 101 :: eB x).drop ((eA U).length + ([101] : List UInt8).length) = eB x := by
    rw [show eA U ++ 101 :: eB x = (eA U ++ [101]) ++ eB x by simp]
    rw [List.drop_left' (by simp)]
  rw [this]
theorem ePoint (U : Nat) : replace (eA U) [46] [] 1 = decDigits U := by
  unfold replace
  rw [if_neg (by decide)]
  have hd := dec_isD U
  have h46 : ¬ isD 46 := by intro h; have := h.1; exact absurd this (by decide)
  by_cases h : nDigits U = 1
  · rw [eA_one h]
    have hi := index_none (decDigits U) (isD_not hd h46)
    have hc : count (decDigits U) [46] = 0 := by unfold count; rw [countFrom, hi]; rfl
    unfold replaceNum
    rw [hc, if_pos (by omega)]
    rfl
  · obtain ⟨a, c, r, h1, h2⟩ := eA_more h
    have ha : a ≠ 46 := by
      intro h3
      exact h46 (by have := hd a (by rw [h1]; exact .head _); rwa [h3] at this)
    have hi := index_at (c := 46) [a] (c :: r) (by simpa using fun h => ha h.symm)
    have hc : ¬ ((1 : Int) < 0 ∨ (count (eA U) [46] : Int) < 1) := by
      have : 1 ≤ count (eA U) [46] := by
        unfold count
        rw [h2]
        show 1 ≤ countFrom [46] _ ([a] ++ 46 :: c :: r)
        rw [countFrom, hi]
        have h3 : ((([a] : List UInt8).length : Int) == -1) = false := rfl
        rw [h3]
        exact Nat.le_add_right _ _
      omega
    unfold replaceNum
    rw [if_neg hc, h1, h2]
    have hk := replaceK_hit [46] [] 0 ([a] ++ 46 :: c :: r) 1 (by rw [hi]; rfl)
    show replaceK [46] [] 1 ([a] ++ 46 :: c :: r) = _
    rw [hk]
    rfl
def atoB (n : Nat) : Bool := (match atoi (eB (n : Int)) with | some y => y == (n : Int) | none => false) && (match atoi (eB (-(n : Int))) with | some y => y == -(n : Int) | none => false)
theorem ato_all : (List.range 401).all atoB = true := by kernel_rfl
theorem eAtoi (x : Int) (h1 : -400 ≤ x) (h2 : x ≤ 400) : atoi (eB x) = some x := by
  have h := List.all_eq_true.1 ato_all x.natAbs (List.mem_range.2 (by omega))
  unfold atoB at h
  rw [Bool.and_eq_true] at h
  rcases Int.le_total 0 x with h0 | h0
  · have e : (x.natAbs : Int) = x := by omega
    rw [e] at h
    have h3 := h.1
    split at h3
    · rename_i y hy; rw [hy, eq_of_beq h3]
    · cases h3
  · have e : -(x.natAbs : Int) = x := by omega
    rw [e] at h
    have h3 := h.2
    split at h3
    · rename_i y hy; rw [hy, eq_of_beq h3]
    · cases h3
theorem eB_len (x : Int) : (eB x).length ≤ 4 := by
  unfold eB expL
  rw [List.length_map, List.length_cons]
  split
  · simp
  · split <;> simp
theorem eA_len (U : Nat) : (eA U).length ≤ nDigits U + 1 := by
  have h := headL_len (ds := dsN U) (by unfold dsN; rw [List.length_map, decDigits_length]; exact nDigits_pos U)
  unfold eA
  rw [List.length_map]
  have : (dsN U).length = nDigits U := by unfold dsN; rw [List.length_map, decDigits_length]
  omega
end Go.Zw
