/-
  DERIVED: THE SHELF's CONTRACTS AT THIS DUMP, IN PLAIN WORDS (tools/lay-plain.mjs out of 'TryzShelf.lean', which tools/lay-shelf.mjs wrote): THE SAME DECLARATIONS UNDER THE SAME NAMES: 'import', 'namespace', 'open', 'def', 'theorem' AND NOTHING ELSE: no command of the shelf's: FOR A HAND-IN. Each laying: the table of numbers ('.._ren') and one theorem, a field a fact of the dump's own or the kernel's comparison; each contract: ONE APPLICATION.
-/
import Derived.Shelf.Strings.Builder1
import Derived.Shelf.Strings.Builder2
import Derived.Shelf.Strings.OnBuilder
import Derived.Shelf.Strings.Trim
import Derived.Shelf.Small.Utf8
import Derived.Shelf.Small.Bits
import Derived.Shelf.Small.Strs
import Derived.Shelf.Small.Wraps
import Derived.Shelf.Strings.BuilderF
import Derived.Shelf.Strings.BuilderK
import Derived.Shelf.Strings.BuilderRune
import Derived.Shelf.Utf8.AppendRune
import Derived.Shelf.Utf8.AppendRunePlain
import Derived.Shelf.Utf8.RuneCount
import Derived.Shelf.Strings.Builder2Cap
import Derived.Shelf.Strconv.Atoi
import Derived.Shelf.Strconv.Itoa0
import Derived.Shelf.Strconv.Itoa1
import Derived.Shelf.LaysM
import Derived.Shelf.Strconv.Itoa2
import Derived.Shelf.Strconv.Itoa3
import Derived.Shelf.Strconv.AtoiErrFast
import Derived.Shelf.Strconv.ParseIntEmpty
import Derived.Shelf.Strconv.AtoiFail
import Derived.Shelf.Strconv.Clone
import Derived.Shelf.Strconv.SyntaxError
import Derived.Shelf.LaysC
import Derived.Shelf.Strconv.ToError
import Derived.Shelf.Strconv.Lower
import Derived.Shelf.Strconv.ParseUint10
import Derived.Shelf.Strconv.ParseUint10Empty
import Derived.Shelf.Strconv.ParseUint10Any
import Derived.Shelf.Strconv.RangeError
import Derived.Shelf.Strconv.ToErrorRange
import Derived.Shelf.Strconv.ParseUintEmpty
import Derived.Shelf.Strconv.ParseUint10b64
import Derived.Shelf.Strconv.ParseUint10b32
import Derived.Shelf.Strconv.ParseUint10b16
import Derived.Shelf.Strconv.ParseUint10b8
import Derived.Shelf.Strconv.ParseUint10At
import Derived.Shelf.Strings.Search1
import Derived.Shelf.Strings.Search2
import Derived.Shelf.Strings.Search3
import Derived.Shelf.Strings.Cut
import Derived.Shelf.Strings.Shaped
import Derived.Shelf.Strings.Prefix
import Derived.Shelf.Strings.Fields
import Derived.Shelf.Strings.SplitShaped
import Derived.Shelf.Unicode.Latin
import Derived.Shelf.Unicode.Decode
import Derived.Shelf.Strings.Runes
import Derived.Shelf.Strings.RuneCount
import Derived.Shelf.Strings.AsciiSet
import Derived.Shelf.Bits.Mul64
import Derived.Shelf.Strings.Repeat
import Derived.Shelf.Unicode.DecodeSlow
import Derived.Shelf.Unicode.DecodeAny
import Derived.Shelf.Unicode.Is16White
import Derived.Shelf.Unicode.IsSpaceAny
import Derived.Shelf.Unicode.DecodeLast
import Derived.Shelf.Unicode.Is16WhiteD
import Derived.Shelf.Unicode.Is16Any
import Derived.Shelf.Unicode.Is32Any
import Derived.Shelf.Unicode.ExclAny
import Derived.Shelf.Strings.BuilderCap
import Derived.Shelf.Slices.Turned
import Derived.Ground.Names2Prog
import Derived.Shelf.Slices.SearchI
import Derived.Test.YtfagfkfcokmclaaGreatDoorProg
namespace Go.Proofs
open Go.Shelf
def Tryz.lays161_ren : Go.Shelf.Ren := ⟨fun | 161 => 244 | 231 => 246 | 227 => 248 | 233 => 249 | 235 => 251 | 228 => 266 | 197 => 201 | 151 => 163 | 260 => 230 | 152 => 200 | 137 => 226 | 119 => 227 | 224 => 228 | 225 => 229 | 217 => 231 | 266 => 256 | n => n, fun | 9 => 9 | 4 => 4 | 3 => 3 | 5 => 5 | 117 => 270 | 116 => 269 | 0 => 0 | 124 => 273 | 105 => 228 | 21 => 21 | 119 => 201 | 46 => 211 | 139 => 279 | 138 => 278 | n => n, fun | 3 => 5 | 4 => 6 | n => n⟩
theorem Tryz.lays161 : Go.Proofs.Lays.n161 Tryz.prog Tryz.lays161_ren := {
  mixed := by kernel_rfl
  f119 := Tryz.func227.trans (congrArg some (by kernel_rfl))
  f137 := Tryz.func226.trans (congrArg some (by kernel_rfl))
  f151 := Tryz.func163.trans (congrArg some (by kernel_rfl))
  f152 := Tryz.func200.trans (congrArg some (by kernel_rfl))
  f161 := Tryz.func244.trans (congrArg some (by kernel_rfl))
  f197 := Tryz.func201.trans (congrArg some (by kernel_rfl))
  f217 := Tryz.func231.trans (congrArg some (by kernel_rfl))
  f224 := Tryz.func228.trans (congrArg some (by kernel_rfl))
  f225 := Tryz.func229.trans (congrArg some (by kernel_rfl))
  f227 := Tryz.func248.trans (congrArg some (by kernel_rfl))
  f228 := Tryz.func266.trans (congrArg some (by kernel_rfl))
  f231 := Tryz.func246.trans (congrArg some (by kernel_rfl))
  f233 := Tryz.func249.trans (congrArg some (by kernel_rfl))
  f235 := Tryz.func251.trans (congrArg some (by kernel_rfl))
  f260 := Tryz.func230.trans (congrArg some (by kernel_rfl))
  f266 := Tryz.func256.trans (congrArg some (by kernel_rfl))
  t0 := Tryz.underlying0
  a0 := Tryz.isAgg0
  z0 := Tryz.sizeOf0
  v0 := Tryz.zeroValue0
  t3 := Tryz.underlying3
  a3 := Tryz.isAgg3
  z3 := Tryz.sizeOf3
  v3 := Tryz.zeroValue3
  t4 := Tryz.underlying4
  a4 := Tryz.isAgg4
  z4 := Tryz.sizeOf4
  v4 := Tryz.zeroValue4
  t5 := Tryz.underlying5
  a5 := Tryz.isAgg5
  z5 := Tryz.sizeOf5
  v5 := Tryz.zeroValue5
  t9 := Tryz.underlying9
  a9 := Tryz.isAgg9
  z9 := Tryz.sizeOf9
  v9 := Tryz.zeroValue9
  t21 := Tryz.underlying21
  a21 := Tryz.isAgg21
  z21 := Tryz.sizeOf21
  v21 := Tryz.zeroValue21
  t46 := Tryz.underlying211
  a46 := Tryz.isAgg211
  z46 := Tryz.sizeOf211
  v46 := Tryz.zeroValue211
  t105 := Tryz.underlying228
  a105 := Tryz.isAgg228
  z105 := Tryz.sizeOf228
  v105 := Tryz.zeroValue228
  t116 := Tryz.underlying269
  a116 := Tryz.isAgg269
  z116 := Tryz.sizeOf269
  t117 := Tryz.underlying270
  a117 := Tryz.isAgg270
  z117 := Tryz.sizeOf270
  v117 := Tryz.zeroValue270
  t119 := Tryz.underlying201
  a119 := Tryz.isAgg201
  z119 := Tryz.sizeOf201
  t124 := Tryz.underlying273
  a124 := Tryz.isAgg273
  z124 := Tryz.sizeOf273
  v124 := Tryz.zeroValue273
  t138 := Tryz.underlying278
  a138 := Tryz.isAgg278
  z138 := Tryz.sizeOf278
  v138 := Tryz.zeroValue278
  t139 := Tryz.underlying279
  a139 := Tryz.isAgg279
  z139 := Tryz.sizeOf279
  v139 := Tryz.zeroValue279
  g3 := by kernel_rfl
  g4 := by kernel_rfl }
open Go.RowKit in
/-- strings.TrimLeft: "TrimLeft returns a slice of the string s with all leading Unicode code points contained in cutset removed.": AT A cutset OF ONE ASCII BYTE. The world is as it was. (LAID: no walk: one application.) -/
theorem Tryz.strings_TrimLeft_one (s : ByteArray) (c : UInt8) (hc : c.toNat < 128) (w : World) :
    Calls Tryz.prog 244 #[.string s, .string ⟨#[c]⟩] w fun e w' => e = .returned (.string ⟨(Lib.trimLeftB s.data.toList c).toArray⟩) ∧ w' = w := Any.strings_TrimLeft_one Tryz.lays161 s c hc w
def Tryz.lays162_ren : Go.Shelf.Ren := ⟨fun | 162 => 243 | 232 => 247 | 227 => 248 | 234 => 250 | 236 => 252 | 228 => 266 | 271 => 267 | 151 => 163 | 120 => 284 | 197 => 201 | 152 => 200 | 260 => 230 | 137 => 226 | 119 => 227 | 224 => 228 | 225 => 229 | 217 => 231 | 266 => 256 | n => n, fun | 9 => 9 | 4 => 4 | 3 => 3 | 5 => 5 | 117 => 270 | 116 => 269 | 0 => 0 | 124 => 273 | 21 => 21 | 105 => 228 | 46 => 211 | 119 => 201 | 139 => 279 | 138 => 278 | n => n, fun | 3 => 5 | 4 => 6 | n => n⟩
theorem Tryz.lays162 : Go.Proofs.Lays.n162 Tryz.prog Tryz.lays162_ren := {
  mixed := by kernel_rfl
  f119 := Tryz.func227.trans (congrArg some (by kernel_rfl))
  f120 := Tryz.func284.trans (congrArg some (by kernel_rfl))
  f137 := Tryz.func226.trans (congrArg some (by kernel_rfl))
  f151 := Tryz.func163.trans (congrArg some (by kernel_rfl))
  f152 := Tryz.func200.trans (congrArg some (by kernel_rfl))
  f162 := Tryz.func243.trans (congrArg some (by kernel_rfl))
  f197 := Tryz.func201.trans (congrArg some (by kernel_rfl))
  f217 := Tryz.func231.trans (congrArg some (by kernel_rfl))
  f224 := Tryz.func228.trans (congrArg some (by kernel_rfl))
  f225 := Tryz.func229.trans (congrArg some (by kernel_rfl))
  f227 := Tryz.func248.trans (congrArg some (by kernel_rfl))
  f228 := Tryz.func266.trans (congrArg some (by kernel_rfl))
  f232 := Tryz.func247.trans (congrArg some (by kernel_rfl))
  f234 := Tryz.func250.trans (congrArg some (by kernel_rfl))
  f236 := Tryz.func252.trans (congrArg some (by kernel_rfl))
  f260 := Tryz.func230.trans (congrArg some (by kernel_rfl))
  f266 := Tryz.func256.trans (congrArg some (by kernel_rfl))
  f271 := Tryz.func267.trans (congrArg some (by kernel_rfl))
  t0 := Tryz.underlying0
  a0 := Tryz.isAgg0
  z0 := Tryz.sizeOf0
  v0 := Tryz.zeroValue0
  t3 := Tryz.underlying3
  a3 := Tryz.isAgg3
  z3 := Tryz.sizeOf3
  v3 := Tryz.zeroValue3
  t4 := Tryz.underlying4
  a4 := Tryz.isAgg4
  z4 := Tryz.sizeOf4
  v4 := Tryz.zeroValue4
  t5 := Tryz.underlying5
  a5 := Tryz.isAgg5
  z5 := Tryz.sizeOf5
  v5 := Tryz.zeroValue5
  t9 := Tryz.underlying9
  a9 := Tryz.isAgg9
  z9 := Tryz.sizeOf9
  v9 := Tryz.zeroValue9
  t21 := Tryz.underlying21
  a21 := Tryz.isAgg21
  z21 := Tryz.sizeOf21
  v21 := Tryz.zeroValue21
  t46 := Tryz.underlying211
  a46 := Tryz.isAgg211
  z46 := Tryz.sizeOf211
  v46 := Tryz.zeroValue211
  t105 := Tryz.underlying228
  a105 := Tryz.isAgg228
  z105 := Tryz.sizeOf228
  v105 := Tryz.zeroValue228
  t116 := Tryz.underlying269
  a116 := Tryz.isAgg269
  z116 := Tryz.sizeOf269
  t117 := Tryz.underlying270
  a117 := Tryz.isAgg270
  z117 := Tryz.sizeOf270
  v117 := Tryz.zeroValue270
  t119 := Tryz.underlying201
  a119 := Tryz.isAgg201
  z119 := Tryz.sizeOf201
  t124 := Tryz.underlying273
  a124 := Tryz.isAgg273
  z124 := Tryz.sizeOf273
  v124 := Tryz.zeroValue273
  t138 := Tryz.underlying278
  a138 := Tryz.isAgg278
  z138 := Tryz.sizeOf278
  v138 := Tryz.zeroValue278
  t139 := Tryz.underlying279
  a139 := Tryz.isAgg279
  z139 := Tryz.sizeOf279
  v139 := Tryz.zeroValue279
  g3 := by kernel_rfl
  g4 := by kernel_rfl }
open Go.RowKit in
/-- strings.TrimRight: "TrimRight returns a slice of the string s, with all trailing Unicode code points contained in cutset removed.": AT A cutset OF ONE ASCII BYTE. The world is as it was. (LAID: no walk: one application.) -/
theorem Tryz.strings_TrimRight_one (s : ByteArray) (c : UInt8) (hc : c.toNat < 128) (w : World) (hs : s.size ≤ 9223372036854775807) :
    Calls Tryz.prog 243 #[.string s, .string ⟨#[c]⟩] w fun e w' => e = .returned (.string ⟨(Lib.trimRightB s.data.toList c).toArray⟩) ∧ w' = w := Any.strings_TrimRight_one Tryz.lays162 s c hc w hs
def Tryz.lays160_ren : Go.Shelf.Ren := ⟨fun | 160 => 219 | 232 => 247 | 231 => 246 | 227 => 248 | 234 => 250 | 233 => 249 | 236 => 252 | 235 => 251 | 228 => 266 | 271 => 267 | 151 => 163 | 197 => 201 | 120 => 284 | 152 => 200 | 260 => 230 | 137 => 226 | 119 => 227 | 224 => 228 | 225 => 229 | 217 => 231 | 266 => 256 | n => n, fun | 9 => 9 | 4 => 4 | 3 => 3 | 5 => 5 | 117 => 270 | 116 => 269 | 0 => 0 | 124 => 273 | 21 => 21 | 105 => 228 | 46 => 211 | 119 => 201 | 139 => 279 | 138 => 278 | n => n, fun | 3 => 5 | 4 => 6 | n => n⟩
theorem Tryz.lays160 : Go.Proofs.Lays.n160 Tryz.prog Tryz.lays160_ren := {
  mixed := by kernel_rfl
  f119 := Tryz.func227.trans (congrArg some (by kernel_rfl))
  f120 := Tryz.func284.trans (congrArg some (by kernel_rfl))
  f137 := Tryz.func226.trans (congrArg some (by kernel_rfl))
  f151 := Tryz.func163.trans (congrArg some (by kernel_rfl))
  f152 := Tryz.func200.trans (congrArg some (by kernel_rfl))
  f160 := Tryz.func219.trans (congrArg some (by kernel_rfl))
  f197 := Tryz.func201.trans (congrArg some (by kernel_rfl))
  f217 := Tryz.func231.trans (congrArg some (by kernel_rfl))
  f224 := Tryz.func228.trans (congrArg some (by kernel_rfl))
  f225 := Tryz.func229.trans (congrArg some (by kernel_rfl))
  f227 := Tryz.func248.trans (congrArg some (by kernel_rfl))
  f228 := Tryz.func266.trans (congrArg some (by kernel_rfl))
  f231 := Tryz.func246.trans (congrArg some (by kernel_rfl))
  f232 := Tryz.func247.trans (congrArg some (by kernel_rfl))
  f233 := Tryz.func249.trans (congrArg some (by kernel_rfl))
  f234 := Tryz.func250.trans (congrArg some (by kernel_rfl))
  f235 := Tryz.func251.trans (congrArg some (by kernel_rfl))
  f236 := Tryz.func252.trans (congrArg some (by kernel_rfl))
  f260 := Tryz.func230.trans (congrArg some (by kernel_rfl))
  f266 := Tryz.func256.trans (congrArg some (by kernel_rfl))
  f271 := Tryz.func267.trans (congrArg some (by kernel_rfl))
  t0 := Tryz.underlying0
  a0 := Tryz.isAgg0
  z0 := Tryz.sizeOf0
  v0 := Tryz.zeroValue0
  t3 := Tryz.underlying3
  a3 := Tryz.isAgg3
  z3 := Tryz.sizeOf3
  v3 := Tryz.zeroValue3
  t4 := Tryz.underlying4
  a4 := Tryz.isAgg4
  z4 := Tryz.sizeOf4
  v4 := Tryz.zeroValue4
  t5 := Tryz.underlying5
  a5 := Tryz.isAgg5
  z5 := Tryz.sizeOf5
  v5 := Tryz.zeroValue5
  t9 := Tryz.underlying9
  a9 := Tryz.isAgg9
  z9 := Tryz.sizeOf9
  v9 := Tryz.zeroValue9
  t21 := Tryz.underlying21
  a21 := Tryz.isAgg21
  z21 := Tryz.sizeOf21
  v21 := Tryz.zeroValue21
  t46 := Tryz.underlying211
  a46 := Tryz.isAgg211
  z46 := Tryz.sizeOf211
  v46 := Tryz.zeroValue211
  t105 := Tryz.underlying228
  a105 := Tryz.isAgg228
  z105 := Tryz.sizeOf228
  v105 := Tryz.zeroValue228
  t116 := Tryz.underlying269
  a116 := Tryz.isAgg269
  z116 := Tryz.sizeOf269
  t117 := Tryz.underlying270
  a117 := Tryz.isAgg270
  z117 := Tryz.sizeOf270
  v117 := Tryz.zeroValue270
  t119 := Tryz.underlying201
  a119 := Tryz.isAgg201
  z119 := Tryz.sizeOf201
  t124 := Tryz.underlying273
  a124 := Tryz.isAgg273
  z124 := Tryz.sizeOf273
  v124 := Tryz.zeroValue273
  t138 := Tryz.underlying278
  a138 := Tryz.isAgg278
  z138 := Tryz.sizeOf278
  v138 := Tryz.zeroValue278
  t139 := Tryz.underlying279
  a139 := Tryz.isAgg279
  z139 := Tryz.sizeOf279
  v139 := Tryz.zeroValue279
  g3 := by kernel_rfl
  g4 := by kernel_rfl }
def Tryz.lays134_ren : Go.Shelf.Ren := ⟨fun | 134 => 240 | 129 => 259 | n => n, fun | 53 => 168 | 3 => 3 | 4 => 4 | 46 => 211 | 5 => 5 | 9 => 9 | n => n, fun | n => n⟩
theorem Tryz.lays134 : Go.Proofs.Lays.n134 Tryz.prog Tryz.lays134_ren := {
  mixed := by kernel_rfl
  f129 := Tryz.func259.trans (congrArg some (by kernel_rfl))
  f134 := Tryz.func240.trans (congrArg some (by kernel_rfl))
  t3 := Tryz.underlying3
  a3 := Tryz.isAgg3
  z3 := Tryz.sizeOf3
  v3 := Tryz.zeroValue3
  t4 := Tryz.underlying4
  a4 := Tryz.isAgg4
  z4 := Tryz.sizeOf4
  v4 := Tryz.zeroValue4
  t5 := Tryz.underlying5
  a5 := Tryz.isAgg5
  z5 := Tryz.sizeOf5
  v5 := Tryz.zeroValue5
  t9 := Tryz.underlying9
  a9 := Tryz.isAgg9
  z9 := Tryz.sizeOf9
  v9 := Tryz.zeroValue9
  t46 := Tryz.underlying211
  a46 := Tryz.isAgg211
  z46 := Tryz.sizeOf211
  v46 := Tryz.zeroValue211
  t53 := Tryz.underlying168
  a53 := Tryz.isAgg168
  z53 := Tryz.sizeOf168
  v53 := Tryz.zeroValue168 }
/-- bits.LeadingZeros64: "LeadingZeros64 returns the number of leading zero bits in x; the result is 64 for x == 0.": IT RETURNS '64 - Lib.bitLen x'; the world is as it was. ITS CALLEE bits.Len64 IS MET BY ITS OWN CONTRACT OFF THE SHELF (lay that first): entered in place it sends the kernel out of memory. (LAID: no walk: one application.) -/
theorem Tryz.bits_LeadingZeros64 (x : Int) (w : World) (h0 : 0 ≤ x) (h1 : x ≤ 18446744073709551615) :
    Calls Tryz.prog 240 #[.int .u64 x] w fun e w' => e = .returned (.int .i64 (64 - (Lib.bitLen x.toNat : Int))) ∧ w' = w := Any.bits_LeadingZeros64 Tryz.lays134 x w h0 h1
def Tryz.lays106_ren : Go.Shelf.Ren := ⟨fun | 106 => 128 | 213 => 177 | 265 => 213 | n => n, fun | 9 => 9 | 3 => 3 | n => n, fun | n => n⟩
theorem Tryz.lays106 : Go.Proofs.Lays.n106 Tryz.prog Tryz.lays106_ren := {
  mixed := by kernel_rfl
  f106 := Tryz.func128.trans (congrArg some (by kernel_rfl))
  f213 := Tryz.func177.trans (congrArg some (by kernel_rfl))
  f265 := Tryz.func213.trans (congrArg some (by kernel_rfl))
  t3 := Tryz.underlying3
  a3 := Tryz.isAgg3
  z3 := Tryz.sizeOf3
  v3 := Tryz.zeroValue3
  t9 := Tryz.underlying9
  a9 := Tryz.isAgg9
  z9 := Tryz.sizeOf9
  v9 := Tryz.zeroValue9 }
open Go.RowKit in
/-- strings.Compare: "Compare returns an integer comparing two strings lexicographically. The result will be 0 if a == b, -1 if a < b, and +1 if a > b.": IT RETURNS 'Lib.compareBytes a b'; the world is as it was. (LAID: no walk: one application.) -/
theorem Tryz.strings_Compare (a b : ByteArray) (w : World) :
    Calls Tryz.prog 128 #[.string a, .string b] w fun e w' => e = .returned (.int .i64 (Lib.compareBytes a.data.toList b.data.toList)) ∧ w' = w := Any.strings_Compare Tryz.lays106 a b w
def Tryz.lays195_ren : Go.Shelf.Ren := ⟨fun | 195 => 160 | n => n, fun | 9 => 9 | 3 => 3 | 0 => 0 | 4 => 4 | n => n, fun | n => n⟩
theorem Tryz.lays195 : Go.Proofs.Lays.n195 Tryz.prog Tryz.lays195_ren := {
  mixed := by kernel_rfl
  f195 := Tryz.func160.trans (congrArg some (by kernel_rfl))
  t0 := Tryz.underlying0
  a0 := Tryz.isAgg0
  z0 := Tryz.sizeOf0
  v0 := Tryz.zeroValue0
  t3 := Tryz.underlying3
  a3 := Tryz.isAgg3
  z3 := Tryz.sizeOf3
  v3 := Tryz.zeroValue3
  t4 := Tryz.underlying4
  a4 := Tryz.isAgg4
  z4 := Tryz.sizeOf4
  v4 := Tryz.zeroValue4
  t9 := Tryz.underlying9
  a9 := Tryz.isAgg9
  z9 := Tryz.sizeOf9
  v9 := Tryz.zeroValue9 }
open Go.RowKit in
/-- unicode/utf8.RuneCountInString: "RuneCountInString is like RuneCount but its input is a string." ("RuneCount returns the number of runes in p. Erroneous and short encodings are treated as single runes of width 1 byte."): EVERY STRING, valid UTF-8 or not: 'Lib.runeCount s' (plain Lean over the model's own 'Utf8.decode'; 'Lib.runeCount_le': at most len(s); 'Lib.runeCount_ascii': on ASCII: len(s)). THE ONE CONDITION: len(s) below 2^63 - 1 (the counter does not wrap): the form's reach pays it. THE WORLD BEHIND THE CALL: ONE BLOCK MORE: the model's iterator over s, at its end: all else as it was. (LAID: no walk: one application.) -/
theorem Tryz.utf8_RuneCountInString (s : ByteArray) (w : World) (hs : s.size < 9223372036854775807) :
    Calls Tryz.prog 160 #[.string s] w fun e w' => e = .returned (.int .i64 (Lib.runeCount s)) ∧ ∃ pos, w' = w.iter s pos := Any.utf8_RuneCountInString Tryz.lays195 s w hs
def Tryz.laysM171_ren : Go.Shelf.Ren := ⟨fun | 171 => 124 | 243 => 173 | 246 => 209 | 283 => 235 | 284 => 236 | 285 => 237 | 286 => 238 | 129 => 259 | 317 => 258 | 318 => 260 | 319 => 261 | 320 => 262 | 337 => 277 | 338 => 278 | n => n, fun | 3 => 3 | 9 => 9 | 2 => 2 | 4 => 4 | 171 => 260 | 0 => 0 | 53 => 168 | 37 => 152 | 5 => 5 | 173 => 263 | 212 => 284 | 51 => 232 | 20 => 20 | 213 => 285 | 46 => 211 | 232 => 309 | 233 => 310 | n => n, fun | 17 => 7 | 18 => 8 | 19 => 9 | n => n⟩
theorem Tryz.laysM171 : Go.Proofs.LaysM.n171 Tryz.prog Tryz.laysM171_ren := {
  mixed := by kernel_rfl
  f129 := Tryz.func259.trans (congrArg some (by kernel_rfl))
  f171 := Tryz.func124.trans (congrArg some (by kernel_rfl))
  f243 := Tryz.func173.trans (congrArg some (by kernel_rfl))
  f246 := Tryz.func209.trans (congrArg some (by kernel_rfl))
  f283 := Tryz.func235.trans (congrArg some (by kernel_rfl))
  f284 := Tryz.func236.trans (congrArg some (by kernel_rfl))
  f285 := Tryz.func237.trans (congrArg some (by kernel_rfl))
  f286 := Tryz.func238.trans (congrArg some (by kernel_rfl))
  f317 := Tryz.func258.trans (congrArg some (by kernel_rfl))
  f318 := Tryz.func260.trans (congrArg some (by kernel_rfl))
  f319 := Tryz.func261.trans (congrArg some (by kernel_rfl))
  f320 := Tryz.func262.trans (congrArg some (by kernel_rfl))
  f337 := Tryz.func277.trans (congrArg some (by kernel_rfl))
  f338 := Tryz.func278.trans (congrArg some (by kernel_rfl))
  t0 := Tryz.underlying0
  a0 := Tryz.isAgg0
  z0 := Tryz.sizeOf0
  v0 := Tryz.zeroValue0
  t2 := Tryz.underlying2
  a2 := Tryz.isAgg2
  z2 := Tryz.sizeOf2
  v2 := Tryz.zeroValue2
  t3 := Tryz.underlying3
  a3 := Tryz.isAgg3
  z3 := Tryz.sizeOf3
  v3 := Tryz.zeroValue3
  t4 := Tryz.underlying4
  a4 := Tryz.isAgg4
  z4 := Tryz.sizeOf4
  v4 := Tryz.zeroValue4
  t5 := Tryz.underlying5
  a5 := Tryz.isAgg5
  z5 := Tryz.sizeOf5
  v5 := Tryz.zeroValue5
  t9 := Tryz.underlying9
  a9 := Tryz.isAgg9
  z9 := Tryz.sizeOf9
  v9 := Tryz.zeroValue9
  t20 := Tryz.underlying20
  a20 := Tryz.isAgg20
  z20 := Tryz.sizeOf20
  v20 := Tryz.zeroValue20
  t37 := Tryz.underlying152
  a37 := Tryz.isAgg152
  z37 := Tryz.sizeOf152
  v37 := Tryz.zeroValue152
  t46 := Tryz.underlying211
  a46 := Tryz.isAgg211
  z46 := Tryz.sizeOf211
  v46 := Tryz.zeroValue211
  t51 := Tryz.underlying232
  a51 := Tryz.isAgg232
  z51 := Tryz.sizeOf232
  v51 := Tryz.zeroValue232
  t53 := Tryz.underlying168
  a53 := Tryz.isAgg168
  z53 := Tryz.sizeOf168
  v53 := Tryz.zeroValue168
  t171 := Tryz.underlying260
  a171 := Tryz.isAgg260
  z171 := Tryz.sizeOf260
  v171 := Tryz.zeroValue260
  t173 := Tryz.underlying263
  a173 := Tryz.isAgg263
  z173 := Tryz.sizeOf263
  v173 := Tryz.zeroValue263
  t212 := Tryz.underlying284
  a212 := Tryz.isAgg284
  z212 := Tryz.sizeOf284
  v212 := Tryz.zeroValue284
  t213 := Tryz.underlying285
  a213 := Tryz.isAgg285
  z213 := Tryz.sizeOf285
  t232 := Tryz.underlying309
  a232 := Tryz.isAgg309
  z232 := Tryz.sizeOf309
  v232 := Tryz.zeroValue309
  t233 := Tryz.underlying310
  a233 := Tryz.isAgg310
  z233 := Tryz.sizeOf310
  v233 := Tryz.zeroValue310
  g17 := by kernel_rfl
  g18 := by kernel_rfl
  g19 := by kernel_rfl
  i0 := by kernel_rfl
  i2 := by kernel_rfl
  i3 := by kernel_rfl
  i4 := by kernel_rfl
  i5 := by kernel_rfl
  i9 := by kernel_rfl
  i20 := by kernel_rfl
  i37 := by kernel_rfl
  i46 := by kernel_rfl
  i51 := by kernel_rfl
  i53 := by kernel_rfl
  i171 := by kernel_rfl
  i173 := by kernel_rfl
  i212 := by kernel_rfl
  i232 := by kernel_rfl
  i233 := by kernel_rfl
  m17 := by kernel_rfl
  m18 := by kernel_rfl
  m19 := by kernel_rfl }
open Go.RowKit Go.Sort Go.Lib in
/-- strconv.Itoa: "Itoa is equivalent to FormatInt(int64(i), 10).": i's DECIMAL NUMERAL ('Lib.itoa': a '-' where i is negative, then the digits), FOR EVERY int. The world behind the call: the world before it, new blocks behind the heap (the library's 'var a [24]byte'), draws. (LAID: no walk: one application.) -/
theorem Tryz.strconv_Itoa (n : Int) (h0 : -9223372036854775808 ≤ n) (h1 : n ≤ 9223372036854775807) (w : World) (htab : Lib.TabIs Tryz.prog w "internal/strconv.uint64pow10" .u64 Lib.pow10Tab) :
    Calls Tryz.prog 124 #[.int .i64 n] w fun e w' => e = .returned (.string ⟨(Lib.itoa n).toArray⟩) ∧ ∃ k os, w' = grow (w.drewN k) os := Any.strconv_Itoa Tryz.laysM171 n h0 h1 w htab
def Tryz.lays144_ren : Go.Shelf.Ren := ⟨fun | 144 => 185 | 143 => 217 | 219 => 205 | 217 => 231 | 225 => 229 | 224 => 228 | 267 => 232 | 266 => 256 | 314 => 257 | n => n, fun | 9 => 9 | 4 => 4 | 3 => 3 | 5 => 5 | 46 => 211 | 146 => 265 | 51 => 232 | n => n, fun | 1 => 2 | n => n⟩
theorem Tryz.lays144 : Go.Proofs.Lays.n144 Tryz.prog Tryz.lays144_ren := {
  mixed := by kernel_rfl
  f143 := Tryz.func217.trans (congrArg some (by kernel_rfl))
  f144 := Tryz.func185.trans (congrArg some (by kernel_rfl))
  f217 := Tryz.func231.trans (congrArg some (by kernel_rfl))
  f219 := Tryz.func205.trans (congrArg some (by kernel_rfl))
  f224 := Tryz.func228.trans (congrArg some (by kernel_rfl))
  f225 := Tryz.func229.trans (congrArg some (by kernel_rfl))
  f266 := Tryz.func256.trans (congrArg some (by kernel_rfl))
  f267 := Tryz.func232.trans (congrArg some (by kernel_rfl))
  f314 := Tryz.func257.trans (congrArg some (by kernel_rfl))
  t3 := Tryz.underlying3
  a3 := Tryz.isAgg3
  z3 := Tryz.sizeOf3
  v3 := Tryz.zeroValue3
  t4 := Tryz.underlying4
  a4 := Tryz.isAgg4
  z4 := Tryz.sizeOf4
  v4 := Tryz.zeroValue4
  t5 := Tryz.underlying5
  a5 := Tryz.isAgg5
  z5 := Tryz.sizeOf5
  v5 := Tryz.zeroValue5
  t9 := Tryz.underlying9
  a9 := Tryz.isAgg9
  z9 := Tryz.sizeOf9
  v9 := Tryz.zeroValue9
  t46 := Tryz.underlying211
  a46 := Tryz.isAgg211
  z46 := Tryz.sizeOf211
  v46 := Tryz.zeroValue211
  t51 := Tryz.underlying232
  a51 := Tryz.isAgg232
  z51 := Tryz.sizeOf232
  v51 := Tryz.zeroValue232
  t146 := Tryz.underlying265
  a146 := Tryz.isAgg265
  z146 := Tryz.sizeOf265
  v146 := Tryz.zeroValue265
  g1 := by kernel_rfl }
open Go.RowKit Go.Lib in
/-- strings.Contains: "Contains reports whether substr is within s.": AT A substr OF ONE BYTE c: IT RETURNS 'decide (0 ≤ Lib.indexByte s c)'; the world is as it was. (LAID: no walk: one application.) -/
theorem Tryz.strings_Contains_one (s : ByteArray) (c : UInt8) (w : World) :
    Calls Tryz.prog 185 #[.string s, .string ⟨#[c]⟩] w fun e w' => e = .returned (.bool (decide (0 ≤ Lib.indexByte s.data.toList c))) ∧ w' = w := Any.strings_Contains_one Tryz.lays144 s c w
def Tryz.lays145_ren : Go.Shelf.Ren := ⟨fun | 145 => 114 | 220 => 167 | 219 => 205 | 217 => 231 | 225 => 229 | 224 => 228 | 267 => 232 | 266 => 256 | 314 => 257 | n => n, fun | 9 => 9 | 4 => 4 | 59 => 142 | 3 => 3 | 5 => 5 | 46 => 211 | 146 => 265 | 51 => 232 | n => n, fun | 1 => 2 | n => n⟩
theorem Tryz.lays145 : Go.Proofs.Lays.n145 Tryz.prog Tryz.lays145_ren := {
  mixed := by kernel_rfl
  f145 := Tryz.func114.trans (congrArg some (by kernel_rfl))
  f217 := Tryz.func231.trans (congrArg some (by kernel_rfl))
  f219 := Tryz.func205.trans (congrArg some (by kernel_rfl))
  f220 := Tryz.func167.trans (congrArg some (by kernel_rfl))
  f224 := Tryz.func228.trans (congrArg some (by kernel_rfl))
  f225 := Tryz.func229.trans (congrArg some (by kernel_rfl))
  f266 := Tryz.func256.trans (congrArg some (by kernel_rfl))
  f267 := Tryz.func232.trans (congrArg some (by kernel_rfl))
  f314 := Tryz.func257.trans (congrArg some (by kernel_rfl))
  t3 := Tryz.underlying3
  a3 := Tryz.isAgg3
  z3 := Tryz.sizeOf3
  v3 := Tryz.zeroValue3
  t4 := Tryz.underlying4
  a4 := Tryz.isAgg4
  z4 := Tryz.sizeOf4
  v4 := Tryz.zeroValue4
  t5 := Tryz.underlying5
  a5 := Tryz.isAgg5
  z5 := Tryz.sizeOf5
  v5 := Tryz.zeroValue5
  t9 := Tryz.underlying9
  a9 := Tryz.isAgg9
  z9 := Tryz.sizeOf9
  v9 := Tryz.zeroValue9
  t46 := Tryz.underlying211
  a46 := Tryz.isAgg211
  z46 := Tryz.sizeOf211
  v46 := Tryz.zeroValue211
  t51 := Tryz.underlying232
  a51 := Tryz.isAgg232
  z51 := Tryz.sizeOf232
  v51 := Tryz.zeroValue232
  t59 := Tryz.underlying142
  a59 := Tryz.isAgg142
  z59 := Tryz.sizeOf142
  v59 := Tryz.zeroValue142
  t146 := Tryz.underlying265
  a146 := Tryz.isAgg265
  z146 := Tryz.sizeOf265
  v146 := Tryz.zeroValue265
  g1 := by kernel_rfl }
open Go.RowKit Go.Lib in
/-- strings.Cut: "Cut slices s around the first instance of sep, returning the text before and after sep. The found result reports whether sep appears in s. If sep does not appear in s, cut returns s, "", false.": IT RETURNS 'Lib.cut s sep'; the world is as it was but for the count of draws. (LAID: no walk: one application.) -/
theorem Tryz.strings_Cut (s sep : ByteArray) (m : Int) (w : World) (hs : s.size < 4294967281) (hm : w.cell? ⟨2, 0, none⟩ = some (.int .i64 m)) :
    Calls Tryz.prog 114 #[.string s, .string sep] w fun e w' => e = .returned (.tuple #[.string ⟨(Lib.cut s.data.toList sep.data.toList).1.toArray⟩, .string ⟨(Lib.cut s.data.toList sep.data.toList).2.1.toArray⟩, .bool (Lib.cut s.data.toList sep.data.toList).2.2]) ∧ ∃ n, w' = w.drewN n := Any.strings_Cut Tryz.lays145 s sep m w hs hm
def Tryz.lays99_ren : Go.Shelf.Ren := ⟨fun | 99 => 25 | 206 => 61 | n => n, fun | 9 => 9 | 4 => 4 | 3 => 3 | n => n, fun | n => n⟩
theorem Tryz.lays99 : Go.Proofs.Lays.n99 Tryz.prog Tryz.lays99_ren := {
  mixed := by kernel_rfl
  f99 := Tryz.func25.trans (congrArg some (by kernel_rfl))
  f206 := Tryz.func61.trans (congrArg some (by kernel_rfl))
  t3 := Tryz.underlying3
  a3 := Tryz.isAgg3
  z3 := Tryz.sizeOf3
  v3 := Tryz.zeroValue3
  t4 := Tryz.underlying4
  a4 := Tryz.isAgg4
  z4 := Tryz.sizeOf4
  v4 := Tryz.zeroValue4
  t9 := Tryz.underlying9
  a9 := Tryz.isAgg9
  z9 := Tryz.sizeOf9
  v9 := Tryz.zeroValue9 }
open Go.RowKit Go.Lib in
/-- strings.HasPrefix: "HasPrefix reports whether the string s begins with prefix.": IT RETURNS 'Lib.hasPrefix s prefix'; the world is as it was. (LAID: no walk: one application.) -/
theorem Tryz.strings_HasPrefix (s p : ByteArray) (w : World) :
    Calls Tryz.prog 25 #[.string s, .string p] w fun e w' => e = .returned (.bool (Lib.hasPrefix s.data.toList p.data.toList)) ∧ w' = w := Any.strings_HasPrefix Tryz.lays99 s p w
def Tryz.lays100_ren : Go.Shelf.Ren := ⟨fun | 100 => 115 | 207 => 168 | n => n, fun | 9 => 9 | 4 => 4 | 3 => 3 | n => n, fun | n => n⟩
theorem Tryz.lays100 : Go.Proofs.Lays.n100 Tryz.prog Tryz.lays100_ren := {
  mixed := by kernel_rfl
  f100 := Tryz.func115.trans (congrArg some (by kernel_rfl))
  f207 := Tryz.func168.trans (congrArg some (by kernel_rfl))
  t3 := Tryz.underlying3
  a3 := Tryz.isAgg3
  z3 := Tryz.sizeOf3
  v3 := Tryz.zeroValue3
  t4 := Tryz.underlying4
  a4 := Tryz.isAgg4
  z4 := Tryz.sizeOf4
  v4 := Tryz.zeroValue4
  t9 := Tryz.underlying9
  a9 := Tryz.isAgg9
  z9 := Tryz.sizeOf9
  v9 := Tryz.zeroValue9 }
open Go.RowKit Go.Lib in
/-- strings.HasSuffix: "HasSuffix reports whether the string s ends with suffix.": IT RETURNS 'Lib.hasSuffix s suffix'; the world is as it was. ('hs': no Go string is longer: a caller has it of every string that it was handed.) (LAID: no walk: one application.) -/
theorem Tryz.strings_HasSuffix (s p : ByteArray) (w : World) (hs : s.size ≤ 9223372036854775807) :
    Calls Tryz.prog 115 #[.string s, .string p] w fun e w' => e = .returned (.bool (Lib.hasSuffix s.data.toList p.data.toList)) ∧ w' = w := Any.strings_HasSuffix Tryz.lays100 s p w hs
def Tryz.lays101_ren : Go.Shelf.Ren := ⟨fun | 101 => 241 | 208 => 263 | 206 => 61 | n => n, fun | 9 => 9 | 4 => 4 | 3 => 3 | n => n, fun | n => n⟩
theorem Tryz.lays101 : Go.Proofs.Lays.n101 Tryz.prog Tryz.lays101_ren := {
  mixed := by kernel_rfl
  f101 := Tryz.func241.trans (congrArg some (by kernel_rfl))
  f206 := Tryz.func61.trans (congrArg some (by kernel_rfl))
  f208 := Tryz.func263.trans (congrArg some (by kernel_rfl))
  t3 := Tryz.underlying3
  a3 := Tryz.isAgg3
  z3 := Tryz.sizeOf3
  v3 := Tryz.zeroValue3
  t4 := Tryz.underlying4
  a4 := Tryz.isAgg4
  z4 := Tryz.sizeOf4
  v4 := Tryz.zeroValue4
  t9 := Tryz.underlying9
  a9 := Tryz.isAgg9
  z9 := Tryz.sizeOf9
  v9 := Tryz.zeroValue9 }
open Go.RowKit Go.Lib in
/-- strings.TrimPrefix: "TrimPrefix returns s without the provided leading prefix string. If s doesn't start with prefix, s is returned unchanged.": IT RETURNS 'Lib.trimPrefix s prefix'; the world is as it was. (LAID: no walk: one application.) -/
theorem Tryz.strings_TrimPrefix (s p : ByteArray) (w : World) :
    Calls Tryz.prog 241 #[.string s, .string p] w fun e w' => e = .returned (.string ⟨(Lib.trimPrefix s.data.toList p.data.toList).toArray⟩) ∧ w' = w := Any.strings_TrimPrefix Tryz.lays101 s p w
def Tryz.laysM157_ren : Go.Shelf.Ren := ⟨fun | 157 => 120 | 229 => 161 | 199 => 170 | 261 => 206 | 311 => 233 | 312 => 234 | n => n, fun | 9 => 9 | 31 => 37 | 3 => 3 | 5 => 5 | 4 => 4 | 119 => 201 | 0 => 0 | 40 => 166 | 152 => 224 | 21 => 21 | 154 => 226 | 51 => 232 | 141 => 234 | 196 => 252 | 193 => 249 | 198 => 255 | 49 => 253 | 194 => 250 | 201 => 258 | 226 => 281 | 46 => 211 | 227 => 282 | n => n, fun | 0 => 0 | 6 => 1 | n => n⟩
theorem Tryz.laysM157 : Go.Proofs.LaysM.n157 Tryz.prog Tryz.laysM157_ren := {
  mixed := by kernel_rfl
  f157 := Tryz.func120.trans (congrArg some (by kernel_rfl))
  f199 := Tryz.func170.trans (congrArg some (by kernel_rfl))
  f229 := Tryz.func161.trans (congrArg some (by kernel_rfl))
  f261 := Tryz.func206.trans (congrArg some (by kernel_rfl))
  f311 := Tryz.func233.trans (congrArg some (by kernel_rfl))
  f312 := Tryz.func234.trans (congrArg some (by kernel_rfl))
  t0 := Tryz.underlying0
  a0 := Tryz.isAgg0
  z0 := Tryz.sizeOf0
  v0 := Tryz.zeroValue0
  t3 := Tryz.underlying3
  a3 := Tryz.isAgg3
  z3 := Tryz.sizeOf3
  v3 := Tryz.zeroValue3
  t4 := Tryz.underlying4
  a4 := Tryz.isAgg4
  z4 := Tryz.sizeOf4
  v4 := Tryz.zeroValue4
  t5 := Tryz.underlying5
  a5 := Tryz.isAgg5
  z5 := Tryz.sizeOf5
  v5 := Tryz.zeroValue5
  t9 := Tryz.underlying9
  a9 := Tryz.isAgg9
  z9 := Tryz.sizeOf9
  v9 := Tryz.zeroValue9
  t21 := Tryz.underlying21
  a21 := Tryz.isAgg21
  z21 := Tryz.sizeOf21
  v21 := Tryz.zeroValue21
  t31 := Tryz.underlying37
  a31 := Tryz.isAgg37
  z31 := Tryz.sizeOf37
  v31 := Tryz.zeroValue37
  t40 := Tryz.underlying166
  a40 := Tryz.isAgg166
  z40 := Tryz.sizeOf166
  v40 := Tryz.zeroValue166
  t46 := Tryz.underlying211
  a46 := Tryz.isAgg211
  z46 := Tryz.sizeOf211
  v46 := Tryz.zeroValue211
  t49 := Tryz.underlying253
  a49 := Tryz.isAgg253
  z49 := Tryz.sizeOf253
  v49 := Tryz.zeroValue253
  t51 := Tryz.underlying232
  a51 := Tryz.isAgg232
  z51 := Tryz.sizeOf232
  v51 := Tryz.zeroValue232
  t119 := Tryz.underlying201
  a119 := Tryz.isAgg201
  z119 := Tryz.sizeOf201
  t141 := Tryz.underlying234
  a141 := Tryz.isAgg234
  z141 := Tryz.sizeOf234
  v141 := Tryz.zeroValue234
  t152 := Tryz.underlying224
  a152 := Tryz.isAgg224
  z152 := Tryz.sizeOf224
  v152 := Tryz.zeroValue224
  t154 := Tryz.underlying226
  a154 := Tryz.isAgg226
  z154 := Tryz.sizeOf226
  v154 := Tryz.zeroValue226
  t193 := Tryz.underlying249
  a193 := Tryz.isAgg249
  z193 := Tryz.sizeOf249
  v193 := Tryz.zeroValue249
  t194 := Tryz.underlying250
  a194 := Tryz.isAgg250
  z194 := Tryz.sizeOf250
  v194 := Tryz.zeroValue250
  t196 := Tryz.underlying252
  a196 := Tryz.isAgg252
  z196 := Tryz.sizeOf252
  v196 := Tryz.zeroValue252
  t198 := Tryz.underlying255
  a198 := Tryz.isAgg255
  z198 := Tryz.sizeOf255
  v198 := Tryz.zeroValue255
  t201 := Tryz.underlying258
  a201 := Tryz.isAgg258
  z201 := Tryz.sizeOf258
  v201 := Tryz.zeroValue258
  t226 := Tryz.underlying281
  a226 := Tryz.isAgg281
  z226 := Tryz.sizeOf281
  v226 := Tryz.zeroValue281
  t227 := Tryz.underlying282
  a227 := Tryz.isAgg282
  z227 := Tryz.sizeOf282
  v227 := Tryz.zeroValue282
  g0 := by kernel_rfl
  g6 := by kernel_rfl
  i0 := by kernel_rfl
  i3 := by kernel_rfl
  i4 := by kernel_rfl
  i5 := by kernel_rfl
  i9 := by kernel_rfl
  i21 := by kernel_rfl
  i31 := by kernel_rfl
  i40 := by kernel_rfl
  i46 := by kernel_rfl
  i49 := by kernel_rfl
  i51 := by kernel_rfl
  i141 := by kernel_rfl
  i152 := by kernel_rfl
  i154 := by kernel_rfl
  i193 := by kernel_rfl
  i194 := by kernel_rfl
  i196 := by kernel_rfl
  i198 := by kernel_rfl
  i201 := by kernel_rfl
  i226 := by kernel_rfl
  i227 := by kernel_rfl
  m0 := by kernel_rfl
  m6 := by kernel_rfl }
open Go.RowKit Go.Lib in
/-- strings.Fields on ASCII bytes. (The table: 'Lib.TabIs', as strings.TrimSpace's contract asks it.) (LAID: no walk: one application.) -/
theorem Tryz.strings_Fields_laid (s : ByteArray) (w : World) (hs : s.size < 4294967281) (hascii : ∀ (j : Nat) b, s.data.toList[j]? = some b → b.toNat < 128) (htab : Lib.TabIs Tryz.prog w "strings.asciiSpace" .u8 Lib.asciiSpaceTab) :
    Calls Tryz.prog 120 #[.string s] w fun e w' =>
      e = .returned (.slice (some ⟨w.heap.size, 0, none⟩) (Lib.fields s.data.toList).length (Lib.fields s.data.toList).length) ∧ w' = w.alloc (.cells ((Lib.fields s.data.toList).map fun l => Value.string ⟨l.toArray⟩).toArray 9) := Any.strings_Fields_laid Tryz.laysM157 s w hs hascii htab
def Tryz.lays105_ren : Go.Shelf.Ren := ⟨fun | 105 => 174 | 212 => 210 | 99 => 25 | 165 => 127 | 166 => 122 | 170 => 211 | 169 => 123 | 263 => 239 | 264 => 137 | 206 => 61 | 240 => 172 | 241 => 176 | 276 => 208 | 277 => 212 | n => n, fun | 9 => 9 | 3 => 3 | 4 => 4 | 20 => 20 | 0 => 0 | 46 => 211 | 109 => 239 | 5 => 5 | 72 => 154 | 76 => 160 | 51 => 232 | 146 => 265 | 53 => 168 | 148 => 176 | 70 => 151 | 37 => 152 | 75 => 159 | 127 => 202 | 164 => 236 | 80 => 162 | n => n, fun | n => n⟩
theorem Tryz.lays105 : Go.Proofs.Lays.n105 Tryz.prog Tryz.lays105_ren := {
  mixed := by kernel_rfl
  f99 := Tryz.func25.trans (congrArg some (by kernel_rfl))
  f105 := Tryz.func174.trans (congrArg some (by kernel_rfl))
  f165 := Tryz.func127.trans (congrArg some (by kernel_rfl))
  f166 := Tryz.func122.trans (congrArg some (by kernel_rfl))
  f169 := Tryz.func123.trans (congrArg some (by kernel_rfl))
  f170 := Tryz.func211.trans (congrArg some (by kernel_rfl))
  f206 := Tryz.func61.trans (congrArg some (by kernel_rfl))
  f212 := Tryz.func210.trans (congrArg some (by kernel_rfl))
  f240 := Tryz.func172.trans (congrArg some (by kernel_rfl))
  f241 := Tryz.func176.trans (congrArg some (by kernel_rfl))
  f263 := Tryz.func239.trans (congrArg some (by kernel_rfl))
  f264 := Tryz.func137.trans (congrArg some (by kernel_rfl))
  f276 := Tryz.func208.trans (congrArg some (by kernel_rfl))
  f277 := Tryz.func212.trans (congrArg some (by kernel_rfl))
  t0 := Tryz.underlying0
  a0 := Tryz.isAgg0
  z0 := Tryz.sizeOf0
  v0 := Tryz.zeroValue0
  t3 := Tryz.underlying3
  a3 := Tryz.isAgg3
  z3 := Tryz.sizeOf3
  v3 := Tryz.zeroValue3
  t4 := Tryz.underlying4
  a4 := Tryz.isAgg4
  z4 := Tryz.sizeOf4
  v4 := Tryz.zeroValue4
  t5 := Tryz.underlying5
  a5 := Tryz.isAgg5
  z5 := Tryz.sizeOf5
  v5 := Tryz.zeroValue5
  t9 := Tryz.underlying9
  a9 := Tryz.isAgg9
  z9 := Tryz.sizeOf9
  v9 := Tryz.zeroValue9
  t20 := Tryz.underlying20
  a20 := Tryz.isAgg20
  z20 := Tryz.sizeOf20
  v20 := Tryz.zeroValue20
  t37 := Tryz.underlying152
  a37 := Tryz.isAgg152
  z37 := Tryz.sizeOf152
  v37 := Tryz.zeroValue152
  t46 := Tryz.underlying211
  a46 := Tryz.isAgg211
  z46 := Tryz.sizeOf211
  v46 := Tryz.zeroValue211
  t51 := Tryz.underlying232
  a51 := Tryz.isAgg232
  z51 := Tryz.sizeOf232
  v51 := Tryz.zeroValue232
  t53 := Tryz.underlying168
  a53 := Tryz.isAgg168
  z53 := Tryz.sizeOf168
  v53 := Tryz.zeroValue168
  t70 := Tryz.underlying151
  a70 := Tryz.isAgg151
  z70 := Tryz.sizeOf151
  v70 := Tryz.zeroValue151
  t72 := Tryz.underlying154
  a72 := Tryz.isAgg154
  z72 := Tryz.sizeOf154
  v72 := Tryz.zeroValue154
  t75 := Tryz.underlying159
  a75 := Tryz.isAgg159
  z75 := Tryz.sizeOf159
  v75 := Tryz.zeroValue159
  t76 := Tryz.underlying160
  a76 := Tryz.isAgg160
  z76 := Tryz.sizeOf160
  v76 := Tryz.zeroValue160
  t109 := Tryz.underlying239
  a109 := Tryz.isAgg239
  z109 := Tryz.sizeOf239
  v109 := Tryz.zeroValue239
  t127 := Tryz.underlying202
  a127 := Tryz.isAgg202
  z127 := Tryz.sizeOf202
  v127 := Tryz.zeroValue202
  t146 := Tryz.underlying265
  a146 := Tryz.isAgg265
  z146 := Tryz.sizeOf265
  v146 := Tryz.zeroValue265
  t148 := Tryz.underlying176
  a148 := Tryz.isAgg176
  z148 := Tryz.sizeOf176
  v148 := Tryz.zeroValue176
  t164 := Tryz.underlying236
  a164 := Tryz.isAgg236
  z164 := Tryz.sizeOf236
  v164 := Tryz.zeroValue236 }
theorem Tryz.Builder_Extra_105 : Builder.Extra Tryz.prog Tryz.lays105_ren := {
  sizeBuilder := by kernel_rfl
  liesBuilder := by kernel_rfl
  t5 := Tryz.underlying5
  a5 := Tryz.isAgg5
  z5 := Tryz.sizeOf5
  v5 := Tryz.zeroValue5
  infoByte := by kernel_rfl
  cellsByte := by kernel_rfl
  sizeByte := by kernel_rfl
  neB5 := by decide }
open Go.RowKit Go.Lib in
/-- **strings.Repeat: count ≥ 0, the result within one allocation: count copies of s.** (LAID: no walk: one application.) -/
theorem Tryz.strings_Repeat (s : ByteArray) (c : Nat) (w : World) (hc : c ≤ 9223372036854775807) (hlen : s.size * c ≤ 140737488355328) :
    Calls Tryz.prog 174 #[.string s, .int .i64 c] w fun e w' => e = .returned (.string ⟨(Lib.repeatL s.data.toList c).toArray⟩) ∧ Below w.heap.size w w' := Any.strings_Repeat Tryz.lays105 Tryz.Builder_Extra_105 s c w hc hlen
def Tryz.lays110_ren : Go.Shelf.Ren := ⟨fun | 110 => 119 | 109 => 169 | n => n, fun | 31 => 37 | 9 => 9 | 4 => 4 | 3 => 3 | 0 => 0 | n => n, fun | n => n⟩
theorem Tryz.lays110 : Go.Proofs.Lays.n110 Tryz.prog Tryz.lays110_ren := {
  mixed := by kernel_rfl
  f109 := Tryz.func169.trans (congrArg some (by kernel_rfl))
  f110 := Tryz.func119.trans (congrArg some (by kernel_rfl))
  t0 := Tryz.underlying0
  a0 := Tryz.isAgg0
  z0 := Tryz.sizeOf0
  v0 := Tryz.zeroValue0
  t3 := Tryz.underlying3
  a3 := Tryz.isAgg3
  z3 := Tryz.sizeOf3
  v3 := Tryz.zeroValue3
  t4 := Tryz.underlying4
  a4 := Tryz.isAgg4
  z4 := Tryz.sizeOf4
  v4 := Tryz.zeroValue4
  t9 := Tryz.underlying9
  a9 := Tryz.isAgg9
  z9 := Tryz.sizeOf9
  v9 := Tryz.zeroValue9
  t31 := Tryz.underlying37
  a31 := Tryz.isAgg37
  z31 := Tryz.sizeOf37
  v31 := Tryz.zeroValue37 }
open Go.Lib in
/-- slices.Contains at []string: "Contains reports whether v is present in s.": IT RETURNS 'Lib.containsS (the elements) v', which is true just where v is among them ('Lib.containsS_iff'); the world is as it was. ITS CALLEE slices.Index IS MET BY ITS OWN CONTRACT OFF THE SHELF (lay that first): no loop is walked here. (LAID: no walk: one application.) -/
theorem Tryz.slices_Contains_string (b off n c : Nat) (zs : List ByteArray) (x : ByteArray) (w : World) (hz : n ≤ zs.length) (hbig : n ≤ 9223372036854775807) (hc : ∀ j, j < zs.length → w.cell? ⟨b, off + j, none⟩ = some (.string (zs.getD j ByteArray.empty))) :
    Calls Tryz.prog 119 #[.slice (some ⟨b, off, none⟩) n c, .string x] w fun e w' => e = .returned (.bool (Lib.containsS (zs.take n) x)) ∧ w' = w := Any.slices_Contains_string Tryz.lays110 b off n c zs x w hz hbig hc
open Go.Lib in
/-- The same at a slice of length 0, a nil one too. (LAID: no walk: one application.) -/
theorem Tryz.slices_Contains_string_empty (a : Option Addr) (c : Nat) (x : ByteArray) (w : World) :
    Calls Tryz.prog 119 #[.slice a 0 c, .string x] w fun e w' => e = .returned (.bool false) ∧ w' = w := Any.slices_Contains_string_empty Tryz.lays110 a c x w
end Go.Proofs
