/- Contracts of Go's library, laid at this program by the kit's tool. -/
import Derived.Test.YtpomloangafbkaaGreatDoorKit
import Derived.Shelf.Strings.Builder2
import Derived.Shelf.Strings.OnBuilder
import Derived.Shelf.Strings.Builder2Cap
import Derived.Shelf.Strconv.Atoi
import Derived.Shelf.Strconv.Itoa0
import Derived.Shelf.Strconv.Itoa1
import Derived.Shelf.LaysM
import Derived.Shelf.Strconv.Itoa2
import Derived.Shelf.Strconv.Itoa3
import Derived.Shelf.Strconv.AtoiErrFast
import Derived.Shelf.Strconv.ParseIntEmpty
import Derived.Shelf.Strconv.AtoiFail
import Derived.Shelf.Strconv.Clone
import Derived.Shelf.Strconv.SyntaxError
import Derived.Shelf.LaysC
import Derived.Shelf.Strconv.ToError
import Derived.Shelf.Strconv.AtoiErr
import Derived.Shelf.Strconv.ErrVar
import Derived.Shelf.Strconv.Lower
import Derived.Shelf.Strconv.ParseUint10
import Derived.Shelf.Strconv.ParseUint10Empty
import Derived.Shelf.Strconv.ParseUint10Any
import Derived.Shelf.Strconv.ParseInt10
import Derived.Shelf.Strconv.AtoiLong
import Derived.Shelf.Strconv.AtoiInnerAll
import Derived.Shelf.Strconv.RangeError
import Derived.Shelf.Strconv.ToErrorRange
import Derived.Shelf.Strconv.AtoiAll
import Derived.Shelf.Strconv.ErrVarAll
import Derived.Shelf.Strconv.ParseUintEmpty
import Derived.Shelf.Strconv.ParseUint10b64
import Derived.Shelf.Strconv.ParseUint10b32
import Derived.Shelf.Strconv.ParseUint10b16
import Derived.Shelf.Strconv.ParseUint10b8
import Derived.Shelf.Strconv.ParseUint10At
import Derived.Ground.MpProg
import Derived.Shelf.Pu.ParseUintPublic10
import Derived.Shelf.Pu.ErrVarParseUint
import Derived.Shelf.Strings.Search1
import Derived.Shelf.Strings.Search2
import Derived.Shelf.Strings.Search3
import Derived.Shelf.Strings.Cut
import Derived.Shelf.Strings.Count
import Derived.Shelf.Strings.Split
import Derived.Shelf.Strings.RuneCount
import Derived.Shelf.Strings.BuilderCap
namespace Go.Proofs.YtpomloangafbkaaGreatDoor
def Tryz.lays156_ren : Go.Shelf.Ren := ⟨fun | 156 => 28 | 165 => 64 | 166 => 65 | 169 => 66 | 240 => 99 | 241 => 100 | 276 => 129 | 277 => 130 | n => n, fun | 31 => 65 | 9 => 9 | 3 => 3 | 4 => 4 | 0 => 0 | 20 => 20 | 72 => 109 | 76 => 98 | 70 => 107 | 37 => 62 | 75 => 97 | 127 => 135 | 164 => 164 | 5 => 5 | 80 => 91 | n => n, fun | n => n⟩
theorem Tryz.lays156 : Go.Proofs.Lays.n156 Tryz.prog Tryz.lays156_ren := {
  mixed := by kernel_rfl
  f156 := Tryz.func28.trans (congrArg some (by kernel_rfl))
  f165 := Tryz.func64.trans (congrArg some (by kernel_rfl))
  f166 := Tryz.func65.trans (congrArg some (by kernel_rfl))
  f169 := Tryz.func66.trans (congrArg some (by kernel_rfl))
  f240 := Tryz.func99.trans (congrArg some (by kernel_rfl))
  f241 := Tryz.func100.trans (congrArg some (by kernel_rfl))
  f276 := Tryz.func129.trans (congrArg some (by kernel_rfl))
  f277 := Tryz.func130.trans (congrArg some (by kernel_rfl))
  t0 := Tryz.underlying0
  a0 := Tryz.isAgg0
  z0 := Tryz.sizeOf0
  v0 := Tryz.zeroValue0
  t3 := Tryz.underlying3
  a3 := Tryz.isAgg3
  z3 := Tryz.sizeOf3
  v3 := Tryz.zeroValue3
  t4 := Tryz.underlying4
  a4 := Tryz.isAgg4
  z4 := Tryz.sizeOf4
  v4 := Tryz.zeroValue4
  t9 := Tryz.underlying9
  a9 := Tryz.isAgg9
  z9 := Tryz.sizeOf9
  v9 := Tryz.zeroValue9
  t20 := Tryz.underlying20
  a20 := Tryz.isAgg20
  z20 := Tryz.sizeOf20
  v20 := Tryz.zeroValue20
  t31 := Tryz.underlying65
  a31 := Tryz.isAgg65
  z31 := Tryz.sizeOf65
  v31 := Tryz.zeroValue65
  t37 := Tryz.underlying62
  a37 := Tryz.isAgg62
  z37 := Tryz.sizeOf62
  v37 := Tryz.zeroValue62
  t70 := Tryz.underlying107
  a70 := Tryz.isAgg107
  z70 := Tryz.sizeOf107
  v70 := Tryz.zeroValue107
  t72 := Tryz.underlying109
  a72 := Tryz.isAgg109
  z72 := Tryz.sizeOf109
  v72 := Tryz.zeroValue109
  t75 := Tryz.underlying97
  a75 := Tryz.isAgg97
  z75 := Tryz.sizeOf97
  v75 := Tryz.zeroValue97
  t76 := Tryz.underlying98
  a76 := Tryz.isAgg98
  z76 := Tryz.sizeOf98
  v76 := Tryz.zeroValue98
  t127 := Tryz.underlying135
  a127 := Tryz.isAgg135
  z127 := Tryz.sizeOf135
  v127 := Tryz.zeroValue135
  t164 := Tryz.underlying164
  a164 := Tryz.isAgg164
  z164 := Tryz.sizeOf164
  v164 := Tryz.zeroValue164 }
theorem Tryz.Builder_Extra_156 : Builder.Extra Tryz.prog Tryz.lays156_ren := {
  sizeBuilder := by kernel_rfl
  liesBuilder := by kernel_rfl
  t5 := Tryz.underlying5
  a5 := Tryz.isAgg5
  z5 := Tryz.sizeOf5
  v5 := Tryz.zeroValue5
  infoByte := by kernel_rfl
  cellsByte := by kernel_rfl
  sizeByte := by kernel_rfl
  neB5 := by decide }
open Go.RowKit in
theorem Tryz.strings_Join_none (a : Option Addr) (c : Nat) (sep : ByteArray) (w : World) :
    Calls Tryz.prog 28 #[.slice a 0 c, .string sep] w fun e w' => e = .returned (.string ⟨#[]⟩) ∧ w' = w := Any.strings_Join_none Tryz.lays156 Tryz.Builder_Extra_156 a c sep w
open Go.RowKit in
theorem Tryz.strings_Join (bk o c : Nat) (xs : List ByteArray) (sep : ByteArray) (w : World) (hcells : ∀ (j : Nat) x, xs[j]? = some x → w.cell? ⟨bk, o + j, none⟩ = some (.string x)) (hbk : bk < w.heap.size) (hN : xs.length ≤ 140737488355328) (hcap : xs.length ≤ c) (hlen : (Lib.join (xs.map (·.data.toList)) sep.data.toList).length ≤ 140737488355328) :
    Calls Tryz.prog 28 #[.slice (some ⟨bk, o, none⟩) xs.length c, .string sep] w fun e w' => e = .returned (.string ⟨(Lib.join (xs.map (·.data.toList)) sep.data.toList).toArray⟩) ∧ Below w.heap.size w w' := Any.strings_Join Tryz.lays156 Tryz.Builder_Extra_156 bk o c xs sep w hcells hbk hN hcap hlen
def Tryz.lays283_ren : Go.Shelf.Ren := ⟨fun | 283 => 134 | n => n, fun | 3 => 3 | 9 => 9 | 4 => 4 | n => n, fun | n => n⟩
theorem Tryz.lays283 : Go.Proofs.Lays.n283 Tryz.prog Tryz.lays283_ren := {
  mixed := by kernel_rfl
  f283 := Tryz.func134.trans (congrArg some (by kernel_rfl))
  t3 := Tryz.underlying3
  a3 := Tryz.isAgg3
  z3 := Tryz.sizeOf3
  v3 := Tryz.zeroValue3
  t4 := Tryz.underlying4
  a4 := Tryz.isAgg4
  z4 := Tryz.sizeOf4
  v4 := Tryz.zeroValue4
  t9 := Tryz.underlying9
  a9 := Tryz.isAgg9
  z9 := Tryz.sizeOf9
  v9 := Tryz.zeroValue9 }
open Go.Lib in
theorem Tryz.internal_strconv_small (i : Nat) (h : i < 100) (w : World) :
    Calls Tryz.prog 134 #[.int .i64 i] w fun e w' => e = .returned (.string ⟨(Lib.decDigits i).toArray⟩) ∧ w' = w := Any.internal_strconv_small Tryz.lays283 i h w
def Tryz.laysM284_ren : Go.Shelf.Ren := ⟨fun | 284 => 135 | 129 => 161 | 317 => 160 | 318 => 162 | n => n, fun | 53 => 26 | 3 => 3 | 212 => 197 | 0 => 0 | 4 => 4 | 46 => 120 | 5 => 5 | 9 => 9 | n => n, fun | 17 => 4 | n => n⟩
theorem Tryz.laysM284 : Go.Proofs.LaysM.n284 Tryz.prog Tryz.laysM284_ren := {
  mixed := by kernel_rfl
  f129 := Tryz.func161.trans (congrArg some (by kernel_rfl))
  f284 := Tryz.func135.trans (congrArg some (by kernel_rfl))
  f317 := Tryz.func160.trans (congrArg some (by kernel_rfl))
  f318 := Tryz.func162.trans (congrArg some (by kernel_rfl))
  t0 := Tryz.underlying0
  a0 := Tryz.isAgg0
  z0 := Tryz.sizeOf0
  v0 := Tryz.zeroValue0
  t3 := Tryz.underlying3
  a3 := Tryz.isAgg3
  z3 := Tryz.sizeOf3
  v3 := Tryz.zeroValue3
  t4 := Tryz.underlying4
  a4 := Tryz.isAgg4
  z4 := Tryz.sizeOf4
  v4 := Tryz.zeroValue4
  t5 := Tryz.underlying5
  a5 := Tryz.isAgg5
  z5 := Tryz.sizeOf5
  v5 := Tryz.zeroValue5
  t9 := Tryz.underlying9
  a9 := Tryz.isAgg9
  z9 := Tryz.sizeOf9
  v9 := Tryz.zeroValue9
  t46 := Tryz.underlying120
  a46 := Tryz.isAgg120
  z46 := Tryz.sizeOf120
  v46 := Tryz.zeroValue120
  t53 := Tryz.underlying26
  a53 := Tryz.isAgg26
  z53 := Tryz.sizeOf26
  v53 := Tryz.zeroValue26
  t212 := Tryz.underlying197
  a212 := Tryz.isAgg197
  z212 := Tryz.sizeOf197
  v212 := Tryz.zeroValue197
  g17 := by kernel_rfl
  i0 := by kernel_rfl
  i3 := by kernel_rfl
  i4 := by kernel_rfl
  i5 := by kernel_rfl
  i9 := by kernel_rfl
  i46 := by kernel_rfl
  i53 := by kernel_rfl
  i212 := by kernel_rfl
  m17 := by kernel_rfl }
open Go.Lib in
theorem Tryz.internal_strconv_numDigits (u : Nat) (h1 : 1 ≤ u) (h2 : u < 18446744073709551616) (w : World) (htab : Lib.TabIs Tryz.prog w "internal/strconv.uint64pow10" .u64 Lib.pow10Tab) :
    Calls Tryz.prog 135 #[.int .u64 u] w fun e w' => e = .returned (.int .i64 (Lib.nDigits u)) ∧ w' = w := Any.internal_strconv_numDigits Tryz.laysM284 u h1 h2 w htab
def Tryz.lays285_ren : Go.Shelf.Ren := ⟨fun | 285 => 136 | n => n, fun | 37 => 62 | 53 => 26 | 3 => 3 | 4 => 4 | 51 => 24 | 9 => 9 | 5 => 5 | 0 => 0 | n => n, fun | n => n⟩
theorem Tryz.lays285 : Go.Proofs.Lays.n285 Tryz.prog Tryz.lays285_ren := {
  mixed := by kernel_rfl
  f285 := Tryz.func136.trans (congrArg some (by kernel_rfl))
  t0 := Tryz.underlying0
  a0 := Tryz.isAgg0
  z0 := Tryz.sizeOf0
  v0 := Tryz.zeroValue0
  t3 := Tryz.underlying3
  a3 := Tryz.isAgg3
  z3 := Tryz.sizeOf3
  v3 := Tryz.zeroValue3
  t4 := Tryz.underlying4
  a4 := Tryz.isAgg4
  z4 := Tryz.sizeOf4
  v4 := Tryz.zeroValue4
  t5 := Tryz.underlying5
  a5 := Tryz.isAgg5
  z5 := Tryz.sizeOf5
  v5 := Tryz.zeroValue5
  t9 := Tryz.underlying9
  a9 := Tryz.isAgg9
  z9 := Tryz.sizeOf9
  v9 := Tryz.zeroValue9
  t37 := Tryz.underlying62
  a37 := Tryz.isAgg62
  z37 := Tryz.sizeOf62
  v37 := Tryz.zeroValue62
  t51 := Tryz.underlying24
  a51 := Tryz.isAgg24
  z51 := Tryz.sizeOf24
  v51 := Tryz.zeroValue24
  t53 := Tryz.underlying26
  a53 := Tryz.isAgg26
  z53 := Tryz.sizeOf26
  v53 := Tryz.zeroValue26 }
open Go.RowKit Go.Sort Go.Lib in
theorem Tryz.internal_strconv_formatBase10 (blk off cap : Nat) (u : Nat) (d : Array UInt8) (w : World) (hH : Holds (fun (b : UInt8) => Value.int .u8 (b.toNat : Int)) w blk off d) (hu : u < 10 ^ d.size) (hu64 : u < 18446744073709551616) (hsz : d.size < 4611686018427387904) :
    Calls Tryz.prog 136 #[.slice (some ⟨blk, off, none⟩) d.size cap, .int .u64 u] w fun e w' =>
      e = .returned (.tuple #[]) ∧ ∃ (n v' : Nat) (dk : Array UInt8), w' = (putRow (fun (b : UInt8) => Value.int .u8 (b.toNat : Int)) w blk off dk).drewN n ∧ FmtInv d.size u 0 v' dk := Any.internal_strconv_formatBase10 Tryz.lays285 blk off cap u d w hH hu hu64 hsz
def Tryz.laysM171_ren : Go.Shelf.Ren := ⟨fun | 171 => 50 | 243 => 91 | 246 => 120 | 283 => 134 | 284 => 135 | 285 => 136 | 286 => 137 | 129 => 161 | 317 => 160 | 318 => 162 | 319 => 163 | 320 => 164 | 337 => 175 | 338 => 176 | n => n, fun | 3 => 3 | 9 => 9 | 2 => 2 | 4 => 4 | 171 => 172 | 0 => 0 | 53 => 26 | 37 => 62 | 5 => 5 | 173 => 175 | 212 => 197 | 51 => 24 | 20 => 20 | 213 => 198 | 46 => 120 | 232 => 218 | 233 => 219 | n => n, fun | 17 => 4 | 18 => 7 | 19 => 8 | n => n⟩
theorem Tryz.laysM171 : Go.Proofs.LaysM.n171 Tryz.prog Tryz.laysM171_ren := {
  mixed := by kernel_rfl
  f129 := Tryz.func161.trans (congrArg some (by kernel_rfl))
  f171 := Tryz.func50.trans (congrArg some (by kernel_rfl))
  f243 := Tryz.func91.trans (congrArg some (by kernel_rfl))
  f246 := Tryz.func120.trans (congrArg some (by kernel_rfl))
  f283 := Tryz.func134.trans (congrArg some (by kernel_rfl))
  f284 := Tryz.func135.trans (congrArg some (by kernel_rfl))
  f285 := Tryz.func136.trans (congrArg some (by kernel_rfl))
  f286 := Tryz.func137.trans (congrArg some (by kernel_rfl))
  f317 := Tryz.func160.trans (congrArg some (by kernel_rfl))
  f318 := Tryz.func162.trans (congrArg some (by kernel_rfl))
  f319 := Tryz.func163.trans (congrArg some (by kernel_rfl))
  f320 := Tryz.func164.trans (congrArg some (by kernel_rfl))
  f337 := Tryz.func175.trans (congrArg some (by kernel_rfl))
  f338 := Tryz.func176.trans (congrArg some (by kernel_rfl))
  t0 := Tryz.underlying0
  a0 := Tryz.isAgg0
  z0 := Tryz.sizeOf0
  v0 := Tryz.zeroValue0
  t2 := Tryz.underlying2
  a2 := Tryz.isAgg2
  z2 := Tryz.sizeOf2
  v2 := Tryz.zeroValue2
  t3 := Tryz.underlying3
  a3 := Tryz.isAgg3
  z3 := Tryz.sizeOf3
  v3 := Tryz.zeroValue3
  t4 := Tryz.underlying4
  a4 := Tryz.isAgg4
  z4 := Tryz.sizeOf4
  v4 := Tryz.zeroValue4
  t5 := Tryz.underlying5
  a5 := Tryz.isAgg5
  z5 := Tryz.sizeOf5
  v5 := Tryz.zeroValue5
  t9 := Tryz.underlying9
  a9 := Tryz.isAgg9
  z9 := Tryz.sizeOf9
  v9 := Tryz.zeroValue9
  t20 := Tryz.underlying20
  a20 := Tryz.isAgg20
  z20 := Tryz.sizeOf20
  v20 := Tryz.zeroValue20
  t37 := Tryz.underlying62
  a37 := Tryz.isAgg62
  z37 := Tryz.sizeOf62
  v37 := Tryz.zeroValue62
  t46 := Tryz.underlying120
  a46 := Tryz.isAgg120
  z46 := Tryz.sizeOf120
  v46 := Tryz.zeroValue120
  t51 := Tryz.underlying24
  a51 := Tryz.isAgg24
  z51 := Tryz.sizeOf24
  v51 := Tryz.zeroValue24
  t53 := Tryz.underlying26
  a53 := Tryz.isAgg26
  z53 := Tryz.sizeOf26
  v53 := Tryz.zeroValue26
  t171 := Tryz.underlying172
  a171 := Tryz.isAgg172
  z171 := Tryz.sizeOf172
  v171 := Tryz.zeroValue172
  t173 := Tryz.underlying175
  a173 := Tryz.isAgg175
  z173 := Tryz.sizeOf175
  v173 := Tryz.zeroValue175
  t212 := Tryz.underlying197
  a212 := Tryz.isAgg197
  z212 := Tryz.sizeOf197
  v212 := Tryz.zeroValue197
  t213 := Tryz.underlying198
  a213 := Tryz.isAgg198
  z213 := Tryz.sizeOf198
  t232 := Tryz.underlying218
  a232 := Tryz.isAgg218
  z232 := Tryz.sizeOf218
  v232 := Tryz.zeroValue218
  t233 := Tryz.underlying219
  a233 := Tryz.isAgg219
  z233 := Tryz.sizeOf219
  v233 := Tryz.zeroValue219
  g17 := by kernel_rfl
  g18 := by kernel_rfl
  g19 := by kernel_rfl
  i0 := by kernel_rfl
  i2 := by kernel_rfl
  i3 := by kernel_rfl
  i4 := by kernel_rfl
  i5 := by kernel_rfl
  i9 := by kernel_rfl
  i20 := by kernel_rfl
  i37 := by kernel_rfl
  i46 := by kernel_rfl
  i51 := by kernel_rfl
  i53 := by kernel_rfl
  i171 := by kernel_rfl
  i173 := by kernel_rfl
  i212 := by kernel_rfl
  i232 := by kernel_rfl
  i233 := by kernel_rfl
  m17 := by kernel_rfl
  m18 := by kernel_rfl
  m19 := by kernel_rfl }
open Go.RowKit Go.Sort Go.Lib in
theorem Tryz.strconv_Itoa (n : Int) (h0 : -9223372036854775808 ≤ n) (h1 : n ≤ 9223372036854775807) (w : World) (htab : Lib.TabIs Tryz.prog w "internal/strconv.uint64pow10" .u64 Lib.pow10Tab) :
    Calls Tryz.prog 50 #[.int .i64 n] w fun e w' => e = .returned (.string ⟨(Lib.itoa n).toArray⟩) ∧ ∃ k os, w' = grow (w.drewN k) os := Any.strconv_Itoa Tryz.laysM171 n h0 h1 w htab
def Tryz.laysC172_ren : Go.Shelf.Ren := ⟨fun | 172 => 55 | 244 => 93 | 245 => 94 | 247 => 122 | 279 => 123 | 280 => 124 | 281 => 125 | 282 => 126 | 287 => 141 | 316 => 155 | 171 => 50 | 205 => 156 | 321 => 166 | 322 => 167 | 243 => 91 | 246 => 120 | 283 => 134 | 284 => 135 | 285 => 136 | 286 => 137 | 129 => 161 | 317 => 160 | 318 => 162 | 319 => 163 | 320 => 164 | 337 => 175 | 338 => 176 | n => n, fun | 9 => 9 | 3 => 3 | 75 => 97 | 76 => 98 | 4 => 4 | 5 => 5 | 167 => 157 | 37 => 62 | 0 => 0 | 85 => 158 | 2 => 2 | 168 => 160 | 53 => 26 | 175 => 142 | 46 => 120 | 210 => 190 | 127 => 135 | 145 => 208 | 143 => 206 | 21 => 21 | 171 => 172 | 173 => 175 | 212 => 197 | 51 => 24 | 20 => 20 | 213 => 198 | 232 => 218 | 233 => 219 | 80 => 91 | n => n, fun | 15 => 2 | 16 => 3 | 17 => 4 | 18 => 7 | 19 => 8 | n => n⟩
theorem Tryz.laysC172 : Go.Proofs.LaysC.n172 Tryz.prog Tryz.laysC172_ren := {
  mixed := by kernel_rfl
  f129 := Tryz.func161.trans (congrArg some (by kernel_rfl))
  f171 := Tryz.func50.trans (congrArg some (by kernel_rfl))
  f172 := Tryz.func55.trans (congrArg some (by kernel_rfl))
  f205 := Tryz.func156.trans (congrArg some (by kernel_rfl))
  f243 := Tryz.func91.trans (congrArg some (by kernel_rfl))
  f244 := Tryz.func93.trans (congrArg some (by kernel_rfl))
  f245 := Tryz.func94.trans (congrArg some (by kernel_rfl))
  f246 := Tryz.func120.trans (congrArg some (by kernel_rfl))
  f247 := Tryz.func122.trans (congrArg some (by kernel_rfl))
  f279 := Tryz.func123.trans (congrArg some (by kernel_rfl))
  f280 := Tryz.func124.trans (congrArg some (by kernel_rfl))
  f281 := Tryz.func125.trans (congrArg some (by kernel_rfl))
  f282 := Tryz.func126.trans (congrArg some (by kernel_rfl))
  f283 := Tryz.func134.trans (congrArg some (by kernel_rfl))
  f284 := Tryz.func135.trans (congrArg some (by kernel_rfl))
  f285 := Tryz.func136.trans (congrArg some (by kernel_rfl))
  f286 := Tryz.func137.trans (congrArg some (by kernel_rfl))
  f287 := Tryz.func141.trans (congrArg some (by kernel_rfl))
  f316 := Tryz.func155.trans (congrArg some (by kernel_rfl))
  f317 := Tryz.func160.trans (congrArg some (by kernel_rfl))
  f318 := Tryz.func162.trans (congrArg some (by kernel_rfl))
  f319 := Tryz.func163.trans (congrArg some (by kernel_rfl))
  f320 := Tryz.func164.trans (congrArg some (by kernel_rfl))
  f321 := Tryz.func166.trans (congrArg some (by kernel_rfl))
  f322 := Tryz.func167.trans (congrArg some (by kernel_rfl))
  f337 := Tryz.func175.trans (congrArg some (by kernel_rfl))
  f338 := Tryz.func176.trans (congrArg some (by kernel_rfl))
  t0 := Tryz.underlying0
  a0 := Tryz.isAgg0
  z0 := Tryz.sizeOf0
  v0 := Tryz.zeroValue0
  t2 := Tryz.underlying2
  a2 := Tryz.isAgg2
  z2 := Tryz.sizeOf2
  v2 := Tryz.zeroValue2
  t3 := Tryz.underlying3
  a3 := Tryz.isAgg3
  z3 := Tryz.sizeOf3
  v3 := Tryz.zeroValue3
  t4 := Tryz.underlying4
  a4 := Tryz.isAgg4
  z4 := Tryz.sizeOf4
  v4 := Tryz.zeroValue4
  t5 := Tryz.underlying5
  a5 := Tryz.isAgg5
  z5 := Tryz.sizeOf5
  v5 := Tryz.zeroValue5
  t9 := Tryz.underlying9
  a9 := Tryz.isAgg9
  z9 := Tryz.sizeOf9
  v9 := Tryz.zeroValue9
  t20 := Tryz.underlying20
  a20 := Tryz.isAgg20
  z20 := Tryz.sizeOf20
  v20 := Tryz.zeroValue20
  t21 := Tryz.underlying21
  a21 := Tryz.isAgg21
  z21 := Tryz.sizeOf21
  v21 := Tryz.zeroValue21
  t37 := Tryz.underlying62
  a37 := Tryz.isAgg62
  z37 := Tryz.sizeOf62
  v37 := Tryz.zeroValue62
  t46 := Tryz.underlying120
  a46 := Tryz.isAgg120
  z46 := Tryz.sizeOf120
  v46 := Tryz.zeroValue120
  t51 := Tryz.underlying24
  a51 := Tryz.isAgg24
  z51 := Tryz.sizeOf24
  v51 := Tryz.zeroValue24
  t53 := Tryz.underlying26
  a53 := Tryz.isAgg26
  z53 := Tryz.sizeOf26
  v53 := Tryz.zeroValue26
  t75 := Tryz.underlying97
  a75 := Tryz.isAgg97
  z75 := Tryz.sizeOf97
  v75 := Tryz.zeroValue97
  t76 := Tryz.underlying98
  a76 := Tryz.isAgg98
  z76 := Tryz.sizeOf98
  v76 := Tryz.zeroValue98
  t85 := Tryz.underlying158
  a85 := Tryz.isAgg158
  z85 := Tryz.sizeOf158
  v85 := Tryz.zeroValue158
  t127 := Tryz.underlying135
  a127 := Tryz.isAgg135
  z127 := Tryz.sizeOf135
  v127 := Tryz.zeroValue135
  t143 := Tryz.underlying206
  a143 := Tryz.isAgg206
  z143 := Tryz.sizeOf206
  v143 := Tryz.zeroValue206
  t145 := Tryz.underlying208
  a145 := Tryz.isAgg208
  z145 := Tryz.sizeOf208
  v145 := Tryz.zeroValue208
  t167 := Tryz.underlying157
  a167 := Tryz.isAgg157
  z167 := Tryz.sizeOf157
  v167 := Tryz.zeroValue157
  t168 := Tryz.underlying160
  a168 := Tryz.isAgg160
  z168 := Tryz.sizeOf160
  v168 := Tryz.zeroValue160
  t171 := Tryz.underlying172
  a171 := Tryz.isAgg172
  z171 := Tryz.sizeOf172
  v171 := Tryz.zeroValue172
  t173 := Tryz.underlying175
  a173 := Tryz.isAgg175
  z173 := Tryz.sizeOf175
  v173 := Tryz.zeroValue175
  t175 := Tryz.underlying142
  a175 := Tryz.isAgg142
  z175 := Tryz.sizeOf142
  v175 := Tryz.zeroValue142
  t210 := Tryz.underlying190
  a210 := Tryz.isAgg190
  z210 := Tryz.sizeOf190
  v210 := Tryz.zeroValue190
  t212 := Tryz.underlying197
  a212 := Tryz.isAgg197
  z212 := Tryz.sizeOf197
  v212 := Tryz.zeroValue197
  t213 := Tryz.underlying198
  a213 := Tryz.isAgg198
  z213 := Tryz.sizeOf198
  t232 := Tryz.underlying218
  a232 := Tryz.isAgg218
  z232 := Tryz.sizeOf218
  v232 := Tryz.zeroValue218
  t233 := Tryz.underlying219
  a233 := Tryz.isAgg219
  z233 := Tryz.sizeOf219
  v233 := Tryz.zeroValue219
  g15 := by kernel_rfl
  g16 := by kernel_rfl
  g17 := by kernel_rfl
  g18 := by kernel_rfl
  g19 := by kernel_rfl
  t80 := Tryz.underlying91
  a80 := Tryz.isAgg91
  z80 := Tryz.sizeOf91
  v80 := Tryz.zeroValue91
  i0 := by kernel_rfl
  i2 := by kernel_rfl
  i3 := by kernel_rfl
  i4 := by kernel_rfl
  i5 := by kernel_rfl
  i9 := by kernel_rfl
  i20 := by kernel_rfl
  i21 := by kernel_rfl
  i37 := by kernel_rfl
  i46 := by kernel_rfl
  i51 := by kernel_rfl
  i53 := by kernel_rfl
  i75 := by kernel_rfl
  i76 := by kernel_rfl
  i80 := by kernel_rfl
  i85 := by kernel_rfl
  i127 := by kernel_rfl
  i143 := by kernel_rfl
  i145 := by kernel_rfl
  i167 := by kernel_rfl
  i168 := by kernel_rfl
  i171 := by kernel_rfl
  i173 := by kernel_rfl
  i175 := by kernel_rfl
  i210 := by kernel_rfl
  i212 := by kernel_rfl
  i232 := by kernel_rfl
  i233 := by kernel_rfl
  m15 := by kernel_rfl
  m16 := by kernel_rfl
  m17 := by kernel_rfl
  m18 := by kernel_rfl
  m19 := by kernel_rfl
  c0 := by kernel_rfl
  c2 := by kernel_rfl
  c3 := by kernel_rfl
  c4 := by kernel_rfl
  c5 := by kernel_rfl
  c9 := by kernel_rfl
  c20 := by kernel_rfl
  c21 := by kernel_rfl
  c37 := by kernel_rfl
  c46 := by kernel_rfl
  c51 := by kernel_rfl
  c53 := by kernel_rfl
  c75 := by kernel_rfl
  c76 := by kernel_rfl
  c80 := by kernel_rfl
  c85 := by kernel_rfl
  c127 := by kernel_rfl
  c143 := by kernel_rfl
  c145 := by kernel_rfl
  c167 := by kernel_rfl
  c168 := by kernel_rfl
  c171 := by kernel_rfl
  c173 := by kernel_rfl
  c175 := by kernel_rfl
  c210 := by kernel_rfl
  c212 := by kernel_rfl
  c213 := by kernel_rfl
  c232 := by kernel_rfl
  c233 := by kernel_rfl }
open Go.RowKit in
theorem Tryz.strconv_Atoi_ok (s : ByteArray) (hmax : s.size ≤ 9223372036854775806) (v : Int) (h : Lib.atoiAll s.data.toList = .ok v) (w : World) :
    Calls Tryz.prog 55 #[.string s] w fun e w' => e = .returned (.tuple #[.int .i64 v, .nilIface]) ∧ (w' = w ∨ ∃ t, w' = Lib.bytesWorld w 5 t) := Any.strconv_Atoi_ok Tryz.laysC172 s hmax v h w
open Go.RowKit in
theorem Tryz.strconv_Atoi_syntax (s : ByteArray) (hlim : s.size ≤ 281474976710656) (h : Lib.atoiAll s.data.toList = Go.Lib.NumEnd.syntax) (ev : Value) (w : World) (hv : w.cell? ⟨2, 0, none⟩ = some ev) (hev : ev = .nilIface ∨ ∃ te pe, ev = .iface te pe) :
    Calls Tryz.prog 55 #[.string s] w fun e w' => ∃ N, e = .returned (.tuple #[.int .i64 (0), .iface 160 (.pointer (some ⟨N, 0, none⟩))]) ∧ w.heap.size ≤ N ∧ w'.heap[N]? = some (.cells #[.string ⟨#[65, 116, 111, 105]⟩, .string s, ev] 190 (0, 0)) ∧ Below w.heap.size w w' := Any.strconv_Atoi_syntax Tryz.laysC172 s hlim h ev w hv hev
open Go.RowKit in
theorem Tryz.strconv_Atoi_range (s : ByteArray) (hlim : s.size ≤ 281474976710656) (h : Lib.atoiAll s.data.toList = .range) (ev : Value) (w : World) (hv : w.cell? ⟨3, 0, none⟩ = some ev) (hev : ev = .nilIface ∨ ∃ te pe, ev = .iface te pe) :
    Calls Tryz.prog 55 #[.string s] w fun e w' => ∃ N, e = .returned (.tuple #[.int .i64 (Lib.atoiSat s.data.toList), .iface 160 (.pointer (some ⟨N, 0, none⟩))]) ∧ w.heap.size ≤ N ∧ w'.heap[N]? = some (.cells #[.string ⟨#[65, 116, 111, 105]⟩, .string s, ev] 190 (0, 0)) ∧ Below w.heap.size w w' := Any.strconv_Atoi_range Tryz.laysC172 s hlim h ev w hv hev
def Tryz.laysPu14_ren : Go.Shelf.Ren := ⟨fun | 14 => 107 | 16 => 141 | 17 => 94 | 19 => 166 | 20 => 167 | 21 => 123 | 22 => 124 | 23 => 125 | 24 => 126 | 25 => 155 | 27 => 50 | 26 => 156 | 28 => 91 | 29 => 120 | 30 => 134 | 31 => 135 | 32 => 136 | 33 => 137 | 35 => 161 | 34 => 160 | 36 => 162 | 37 => 163 | 38 => 164 | 39 => 175 | 40 => 176 | n => n, fun | 9 => 9 | 3 => 3 | 22 => 26 | 24 => 97 | 25 => 142 | 4 => 4 | 34 => 157 | 5 => 5 | 36 => 120 | 37 => 62 | 0 => 0 | 39 => 160 | 21 => 21 | 44 => 190 | 47 => 135 | 50 => 208 | 48 => 206 | 2 => 2 | 52 => 172 | 55 => 175 | 59 => 197 | 60 => 24 | 20 => 20 | 61 => 198 | 65 => 218 | 66 => 219 | 67 => 91 | n => n, fun | 0 => 2 | 1 => 3 | 2 => 4 | 3 => 7 | 4 => 8 | n => n⟩
theorem Tryz.laysPu14 : Go.Proofs.LaysPu.n14 Tryz.prog Tryz.laysPu14_ren := {
  mixed := by kernel_rfl
  f14 := Tryz.func107.trans (congrArg some (by kernel_rfl))
  f16 := Tryz.func141.trans (congrArg some (by kernel_rfl))
  f17 := Tryz.func94.trans (congrArg some (by kernel_rfl))
  f19 := Tryz.func166.trans (congrArg some (by kernel_rfl))
  f20 := Tryz.func167.trans (congrArg some (by kernel_rfl))
  f21 := Tryz.func123.trans (congrArg some (by kernel_rfl))
  f22 := Tryz.func124.trans (congrArg some (by kernel_rfl))
  f23 := Tryz.func125.trans (congrArg some (by kernel_rfl))
  f24 := Tryz.func126.trans (congrArg some (by kernel_rfl))
  f25 := Tryz.func155.trans (congrArg some (by kernel_rfl))
  f26 := Tryz.func156.trans (congrArg some (by kernel_rfl))
  f27 := Tryz.func50.trans (congrArg some (by kernel_rfl))
  f28 := Tryz.func91.trans (congrArg some (by kernel_rfl))
  f29 := Tryz.func120.trans (congrArg some (by kernel_rfl))
  f30 := Tryz.func134.trans (congrArg some (by kernel_rfl))
  f31 := Tryz.func135.trans (congrArg some (by kernel_rfl))
  f32 := Tryz.func136.trans (congrArg some (by kernel_rfl))
  f33 := Tryz.func137.trans (congrArg some (by kernel_rfl))
  f34 := Tryz.func160.trans (congrArg some (by kernel_rfl))
  f35 := Tryz.func161.trans (congrArg some (by kernel_rfl))
  f36 := Tryz.func162.trans (congrArg some (by kernel_rfl))
  f37 := Tryz.func163.trans (congrArg some (by kernel_rfl))
  f38 := Tryz.func164.trans (congrArg some (by kernel_rfl))
  f39 := Tryz.func175.trans (congrArg some (by kernel_rfl))
  f40 := Tryz.func176.trans (congrArg some (by kernel_rfl))
  t0 := Tryz.underlying0
  a0 := Tryz.isAgg0
  z0 := Tryz.sizeOf0
  v0 := Tryz.zeroValue0
  i0 := by kernel_rfl
  t2 := Tryz.underlying2
  a2 := Tryz.isAgg2
  z2 := Tryz.sizeOf2
  v2 := Tryz.zeroValue2
  i2 := by kernel_rfl
  t3 := Tryz.underlying3
  a3 := Tryz.isAgg3
  z3 := Tryz.sizeOf3
  v3 := Tryz.zeroValue3
  i3 := by kernel_rfl
  t4 := Tryz.underlying4
  a4 := Tryz.isAgg4
  z4 := Tryz.sizeOf4
  v4 := Tryz.zeroValue4
  i4 := by kernel_rfl
  t5 := Tryz.underlying5
  a5 := Tryz.isAgg5
  z5 := Tryz.sizeOf5
  v5 := Tryz.zeroValue5
  i5 := by kernel_rfl
  t9 := Tryz.underlying9
  a9 := Tryz.isAgg9
  z9 := Tryz.sizeOf9
  v9 := Tryz.zeroValue9
  i9 := by kernel_rfl
  t20 := Tryz.underlying20
  a20 := Tryz.isAgg20
  z20 := Tryz.sizeOf20
  v20 := Tryz.zeroValue20
  i20 := by kernel_rfl
  t21 := Tryz.underlying21
  a21 := Tryz.isAgg21
  z21 := Tryz.sizeOf21
  v21 := Tryz.zeroValue21
  i21 := by kernel_rfl
  t22 := Tryz.underlying26
  a22 := Tryz.isAgg26
  z22 := Tryz.sizeOf26
  v22 := Tryz.zeroValue26
  i22 := by kernel_rfl
  t24 := Tryz.underlying97
  a24 := Tryz.isAgg97
  z24 := Tryz.sizeOf97
  v24 := Tryz.zeroValue97
  i24 := by kernel_rfl
  t25 := Tryz.underlying142
  a25 := Tryz.isAgg142
  z25 := Tryz.sizeOf142
  v25 := Tryz.zeroValue142
  i25 := by kernel_rfl
  t34 := Tryz.underlying157
  a34 := Tryz.isAgg157
  z34 := Tryz.sizeOf157
  v34 := Tryz.zeroValue157
  i34 := by kernel_rfl
  c34 := by kernel_rfl
  t36 := Tryz.underlying120
  a36 := Tryz.isAgg120
  z36 := Tryz.sizeOf120
  v36 := Tryz.zeroValue120
  i36 := by kernel_rfl
  t37 := Tryz.underlying62
  a37 := Tryz.isAgg62
  z37 := Tryz.sizeOf62
  v37 := Tryz.zeroValue62
  i37 := by kernel_rfl
  t39 := Tryz.underlying160
  a39 := Tryz.isAgg160
  z39 := Tryz.sizeOf160
  v39 := Tryz.zeroValue160
  i39 := by kernel_rfl
  t44 := Tryz.underlying190
  a44 := Tryz.isAgg190
  z44 := Tryz.sizeOf190
  v44 := Tryz.zeroValue190
  i44 := by kernel_rfl
  t47 := Tryz.underlying135
  a47 := Tryz.isAgg135
  z47 := Tryz.sizeOf135
  v47 := Tryz.zeroValue135
  i47 := by kernel_rfl
  t48 := Tryz.underlying206
  a48 := Tryz.isAgg206
  z48 := Tryz.sizeOf206
  v48 := Tryz.zeroValue206
  i48 := by kernel_rfl
  t50 := Tryz.underlying208
  a50 := Tryz.isAgg208
  z50 := Tryz.sizeOf208
  v50 := Tryz.zeroValue208
  i50 := by kernel_rfl
  t52 := Tryz.underlying172
  a52 := Tryz.isAgg172
  z52 := Tryz.sizeOf172
  v52 := Tryz.zeroValue172
  i52 := by kernel_rfl
  t55 := Tryz.underlying175
  a55 := Tryz.isAgg175
  z55 := Tryz.sizeOf175
  v55 := Tryz.zeroValue175
  i55 := by kernel_rfl
  t59 := Tryz.underlying197
  a59 := Tryz.isAgg197
  z59 := Tryz.sizeOf197
  v59 := Tryz.zeroValue197
  i59 := by kernel_rfl
  t60 := Tryz.underlying24
  a60 := Tryz.isAgg24
  z60 := Tryz.sizeOf24
  v60 := Tryz.zeroValue24
  i60 := by kernel_rfl
  t61 := Tryz.underlying198
  a61 := Tryz.isAgg198
  z61 := Tryz.sizeOf198
  t65 := Tryz.underlying218
  a65 := Tryz.isAgg218
  z65 := Tryz.sizeOf218
  v65 := Tryz.zeroValue218
  i65 := by kernel_rfl
  t66 := Tryz.underlying219
  a66 := Tryz.isAgg219
  z66 := Tryz.sizeOf219
  v66 := Tryz.zeroValue219
  i66 := by kernel_rfl
  t67 := Tryz.underlying91
  a67 := Tryz.isAgg91
  z67 := Tryz.sizeOf91
  v67 := Tryz.zeroValue91
  i67 := by kernel_rfl
  g0 := by kernel_rfl
  m0 := by kernel_rfl
  g1 := by kernel_rfl
  m1 := by kernel_rfl
  g2 := by kernel_rfl
  m2 := by kernel_rfl
  g3 := by kernel_rfl
  m3 := by kernel_rfl
  g4 := by kernel_rfl
  m4 := by kernel_rfl }
open Go.RowKit in
theorem Tryz.strconv_ParseUint_10_at64_ok (s : ByteArray) (hmax : s.size ≤ 9223372036854775806) (u : Nat) (h : Lib.parseUintB 64 s.data.toList = .ok u) (w : World) :
    Calls Tryz.prog 107 #[.string s, .int .i64 10, .int .i64 64] w fun e w' => e = .returned (.tuple #[.int .u64 u, .nilIface]) ∧ (w' = w ∨ w' = Lib.bytesWorld w 5 s) := Any.strconv_ParseUint_10_at64_ok Tryz.laysPu14 s hmax u h w
open Go.RowKit in
theorem Tryz.strconv_ParseUint_10_at64_syntax (s : ByteArray) (hlim : s.size ≤ 281474976710656) (h : Lib.parseUintB 64 s.data.toList = Go.Lib.NumEnd.syntax) (ev : Value) (w : World) (hv : w.cell? ⟨2, 0, none⟩ = some ev) (hev : ev = .nilIface ∨ ∃ te pe, ev = .iface te pe) :
    Calls Tryz.prog 107 #[.string s, .int .i64 10, .int .i64 64] w fun e w' => ∃ N, e = .returned (.tuple #[.int .u64 0, .iface 160 (.pointer (some ⟨N, 0, none⟩))]) ∧ w.heap.size ≤ N ∧ w'.heap[N]? = some (.cells #[.string ⟨#[80, 97, 114, 115, 101, 85, 105, 110, 116]⟩, .string s, ev] 190 (0, 0)) ∧ Below w.heap.size w w' := Any.strconv_ParseUint_10_at64_syntax Tryz.laysPu14 s hlim h ev w hv hev
open Go.RowKit in
theorem Tryz.strconv_ParseUint_10_at64_range (s : ByteArray) (hlim : s.size ≤ 281474976710656) (h : Lib.parseUintB 64 s.data.toList = .range) (ev : Value) (w : World) (hv : w.cell? ⟨3, 0, none⟩ = some ev) (hev : ev = .nilIface ∨ ∃ te pe, ev = .iface te pe) :
    Calls Tryz.prog 107 #[.string s, .int .i64 10, .int .i64 64] w fun e w' => ∃ N, e = .returned (.tuple #[.int .u64 18446744073709551615, .iface 160 (.pointer (some ⟨N, 0, none⟩))]) ∧ w.heap.size ≤ N ∧ w'.heap[N]? = some (.cells #[.string ⟨#[80, 97, 114, 115, 101, 85, 105, 110, 116]⟩, .string s, ev] 190 (0, 0)) ∧ Below w.heap.size w w' := Any.strconv_ParseUint_10_at64_range Tryz.laysPu14 s hlim h ev w hv hev
def Tryz.lays143_ren : Go.Shelf.Ren := ⟨fun | 143 => 106 | 219 => 121 | 217 => 151 | 225 => 152 | 224 => 153 | 267 => 154 | 266 => 170 | 314 => 171 | n => n, fun | 9 => 9 | 3 => 3 | 4 => 4 | 5 => 5 | 46 => 120 | 146 => 204 | 51 => 24 | n => n, fun | 1 => 1 | n => n⟩
theorem Tryz.lays143 : Go.Proofs.Lays.n143 Tryz.prog Tryz.lays143_ren := {
  mixed := by kernel_rfl
  f143 := Tryz.func106.trans (congrArg some (by kernel_rfl))
  f217 := Tryz.func151.trans (congrArg some (by kernel_rfl))
  f219 := Tryz.func121.trans (congrArg some (by kernel_rfl))
  f224 := Tryz.func153.trans (congrArg some (by kernel_rfl))
  f225 := Tryz.func152.trans (congrArg some (by kernel_rfl))
  f266 := Tryz.func170.trans (congrArg some (by kernel_rfl))
  f267 := Tryz.func154.trans (congrArg some (by kernel_rfl))
  f314 := Tryz.func171.trans (congrArg some (by kernel_rfl))
  t3 := Tryz.underlying3
  a3 := Tryz.isAgg3
  z3 := Tryz.sizeOf3
  v3 := Tryz.zeroValue3
  t4 := Tryz.underlying4
  a4 := Tryz.isAgg4
  z4 := Tryz.sizeOf4
  v4 := Tryz.zeroValue4
  t5 := Tryz.underlying5
  a5 := Tryz.isAgg5
  z5 := Tryz.sizeOf5
  v5 := Tryz.zeroValue5
  t9 := Tryz.underlying9
  a9 := Tryz.isAgg9
  z9 := Tryz.sizeOf9
  v9 := Tryz.zeroValue9
  t46 := Tryz.underlying120
  a46 := Tryz.isAgg120
  z46 := Tryz.sizeOf120
  v46 := Tryz.zeroValue120
  t51 := Tryz.underlying24
  a51 := Tryz.isAgg24
  z51 := Tryz.sizeOf24
  v51 := Tryz.zeroValue24
  t146 := Tryz.underlying204
  a146 := Tryz.isAgg204
  z146 := Tryz.sizeOf204
  v146 := Tryz.zeroValue204
  g1 := by kernel_rfl }
open Go.RowKit Go.Lib in
theorem Tryz.strings_Index_one (s : ByteArray) (c : UInt8) (w : World) :
    Calls Tryz.prog 106 #[.string s, .string ⟨#[c]⟩] w fun e w' => e = .returned (.int .i64 (Lib.indexByte s.data.toList c)) ∧ w' = w := Any.strings_Index_one Tryz.lays143 s c w
def Tryz.lays145_ren : Go.Shelf.Ren := ⟨fun | 145 => 54 | 220 => 92 | 219 => 121 | 217 => 151 | 225 => 152 | 224 => 153 | 267 => 154 | 266 => 170 | 314 => 171 | n => n, fun | 9 => 9 | 4 => 4 | 59 => 94 | 3 => 3 | 5 => 5 | 46 => 120 | 146 => 204 | 51 => 24 | n => n, fun | 1 => 1 | n => n⟩
theorem Tryz.lays145 : Go.Proofs.Lays.n145 Tryz.prog Tryz.lays145_ren := {
  mixed := by kernel_rfl
  f145 := Tryz.func54.trans (congrArg some (by kernel_rfl))
  f217 := Tryz.func151.trans (congrArg some (by kernel_rfl))
  f219 := Tryz.func121.trans (congrArg some (by kernel_rfl))
  f220 := Tryz.func92.trans (congrArg some (by kernel_rfl))
  f224 := Tryz.func153.trans (congrArg some (by kernel_rfl))
  f225 := Tryz.func152.trans (congrArg some (by kernel_rfl))
  f266 := Tryz.func170.trans (congrArg some (by kernel_rfl))
  f267 := Tryz.func154.trans (congrArg some (by kernel_rfl))
  f314 := Tryz.func171.trans (congrArg some (by kernel_rfl))
  t3 := Tryz.underlying3
  a3 := Tryz.isAgg3
  z3 := Tryz.sizeOf3
  v3 := Tryz.zeroValue3
  t4 := Tryz.underlying4
  a4 := Tryz.isAgg4
  z4 := Tryz.sizeOf4
  v4 := Tryz.zeroValue4
  t5 := Tryz.underlying5
  a5 := Tryz.isAgg5
  z5 := Tryz.sizeOf5
  v5 := Tryz.zeroValue5
  t9 := Tryz.underlying9
  a9 := Tryz.isAgg9
  z9 := Tryz.sizeOf9
  v9 := Tryz.zeroValue9
  t46 := Tryz.underlying120
  a46 := Tryz.isAgg120
  z46 := Tryz.sizeOf120
  v46 := Tryz.zeroValue120
  t51 := Tryz.underlying24
  a51 := Tryz.isAgg24
  z51 := Tryz.sizeOf24
  v51 := Tryz.zeroValue24
  t59 := Tryz.underlying94
  a59 := Tryz.isAgg94
  z59 := Tryz.sizeOf94
  v59 := Tryz.zeroValue94
  t146 := Tryz.underlying204
  a146 := Tryz.isAgg204
  z146 := Tryz.sizeOf204
  v146 := Tryz.zeroValue204
  g1 := by kernel_rfl }
open Go.RowKit Go.Lib in
theorem Tryz.strings_Cut (s sep : ByteArray) (m : Int) (w : World) (hs : s.size < 4294967281) (hm : w.cell? ⟨1, 0, none⟩ = some (.int .i64 m)) :
    Calls Tryz.prog 54 #[.string s, .string sep] w fun e w' => e = .returned (.tuple #[.string ⟨(Lib.cut s.data.toList sep.data.toList).1.toArray⟩, .string ⟨(Lib.cut s.data.toList sep.data.toList).2.1.toArray⟩, .bool (Lib.cut s.data.toList sep.data.toList).2.2]) ∧ ∃ n, w' = w.drewN n := Any.strings_Cut Tryz.lays145 s sep m w hs hm
def Tryz.lays221_ren : Go.Shelf.Ren := ⟨fun | 221 => 74 | 268 => 104 | 138 => 105 | 143 => 106 | 195 => 138 | 197 => 139 | 218 => 140 | 219 => 121 | 260 => 165 | 217 => 151 | 225 => 152 | 224 => 153 | 267 => 154 | 266 => 170 | 314 => 171 | n => n, fun | 9 => 9 | 3 => 3 | 31 => 65 | 4 => 4 | 0 => 0 | 105 => 177 | 21 => 21 | 5 => 5 | 46 => 120 | 119 => 213 | 139 => 216 | 138 => 215 | 146 => 204 | 51 => 24 | n => n, fun | 1 => 1 | 3 => 5 | 4 => 6 | n => n⟩
theorem Tryz.lays221 : Go.Proofs.Lays.n221 Tryz.prog Tryz.lays221_ren := {
  mixed := by kernel_rfl
  f138 := Tryz.func105.trans (congrArg some (by kernel_rfl))
  f143 := Tryz.func106.trans (congrArg some (by kernel_rfl))
  f195 := Tryz.func138.trans (congrArg some (by kernel_rfl))
  f197 := Tryz.func139.trans (congrArg some (by kernel_rfl))
  f217 := Tryz.func151.trans (congrArg some (by kernel_rfl))
  f218 := Tryz.func140.trans (congrArg some (by kernel_rfl))
  f219 := Tryz.func121.trans (congrArg some (by kernel_rfl))
  f221 := Tryz.func74.trans (congrArg some (by kernel_rfl))
  f224 := Tryz.func153.trans (congrArg some (by kernel_rfl))
  f225 := Tryz.func152.trans (congrArg some (by kernel_rfl))
  f260 := Tryz.func165.trans (congrArg some (by kernel_rfl))
  f266 := Tryz.func170.trans (congrArg some (by kernel_rfl))
  f267 := Tryz.func154.trans (congrArg some (by kernel_rfl))
  f268 := Tryz.func104.trans (congrArg some (by kernel_rfl))
  f314 := Tryz.func171.trans (congrArg some (by kernel_rfl))
  t0 := Tryz.underlying0
  a0 := Tryz.isAgg0
  z0 := Tryz.sizeOf0
  v0 := Tryz.zeroValue0
  t3 := Tryz.underlying3
  a3 := Tryz.isAgg3
  z3 := Tryz.sizeOf3
  v3 := Tryz.zeroValue3
  t4 := Tryz.underlying4
  a4 := Tryz.isAgg4
  z4 := Tryz.sizeOf4
  v4 := Tryz.zeroValue4
  t5 := Tryz.underlying5
  a5 := Tryz.isAgg5
  z5 := Tryz.sizeOf5
  v5 := Tryz.zeroValue5
  t9 := Tryz.underlying9
  a9 := Tryz.isAgg9
  z9 := Tryz.sizeOf9
  v9 := Tryz.zeroValue9
  t21 := Tryz.underlying21
  a21 := Tryz.isAgg21
  z21 := Tryz.sizeOf21
  v21 := Tryz.zeroValue21
  t31 := Tryz.underlying65
  a31 := Tryz.isAgg65
  z31 := Tryz.sizeOf65
  v31 := Tryz.zeroValue65
  t46 := Tryz.underlying120
  a46 := Tryz.isAgg120
  z46 := Tryz.sizeOf120
  v46 := Tryz.zeroValue120
  t51 := Tryz.underlying24
  a51 := Tryz.isAgg24
  z51 := Tryz.sizeOf24
  v51 := Tryz.zeroValue24
  t105 := Tryz.underlying177
  a105 := Tryz.isAgg177
  z105 := Tryz.sizeOf177
  v105 := Tryz.zeroValue177
  t119 := Tryz.underlying213
  a119 := Tryz.isAgg213
  z119 := Tryz.sizeOf213
  t138 := Tryz.underlying215
  a138 := Tryz.isAgg215
  z138 := Tryz.sizeOf215
  v138 := Tryz.zeroValue215
  t139 := Tryz.underlying216
  a139 := Tryz.isAgg216
  z139 := Tryz.sizeOf216
  v139 := Tryz.zeroValue216
  t146 := Tryz.underlying204
  a146 := Tryz.isAgg204
  z146 := Tryz.sizeOf204
  v146 := Tryz.zeroValue204
  g1 := by kernel_rfl
  g3 := by kernel_rfl
  g4 := by kernel_rfl }
open Go.RowKit Go.Lib in
theorem Tryz.strings_genSplit (s sep : ByteArray) (sv : Nat) (n : Int) (N : Nat) (m : Int) (w : World) (hs : s.size < 4294967281) (hm : w.cell? ⟨1, 0, none⟩ = some (.int .i64 m)) (h1 : 1 ≤ sep.size) (hsv : sv ≤ sep.size) (hn0 : n ≠ 0) (hn63 : n ≤ 9223372036854775807) (hN : (N : Int) = min (if n < 0 then (Lib.countB s sep : Int) + 1 else n) ((s.size : Int) + 1)) :
    Calls Tryz.prog 74 #[.string s, .string sep, .int .i64 sv, .int .i64 n] w fun e w' =>
      e = .returned (.slice (some ⟨w.heap.size, 0, none⟩) (Lib.splitB sep sv (N - 1) s).length N) ∧ w' = w.alloc (.cells (Lib.cellsOf (Lib.splitB sep sv (N - 1) s) N) 9) := Any.strings_genSplit Tryz.lays221 (by kernel_rfl) s sep sv n N m w hs hm h1 hsv hn0 hn63 hN
def Tryz.lays146_ren : Go.Shelf.Ren := ⟨fun | 146 => 76 | 221 => 74 | 268 => 104 | 138 => 105 | 143 => 106 | 195 => 138 | 197 => 139 | 218 => 140 | 219 => 121 | 260 => 165 | 217 => 151 | 225 => 152 | 224 => 153 | 267 => 154 | 266 => 170 | 314 => 171 | n => n, fun | 9 => 9 | 31 => 65 | 3 => 3 | 4 => 4 | 0 => 0 | 105 => 177 | 21 => 21 | 5 => 5 | 46 => 120 | 119 => 213 | 139 => 216 | 138 => 215 | 146 => 204 | 51 => 24 | n => n, fun | 1 => 1 | 3 => 5 | 4 => 6 | n => n⟩
theorem Tryz.lays146 : Go.Proofs.Lays.n146 Tryz.prog Tryz.lays146_ren := {
  mixed := by kernel_rfl
  f138 := Tryz.func105.trans (congrArg some (by kernel_rfl))
  f143 := Tryz.func106.trans (congrArg some (by kernel_rfl))
  f146 := Tryz.func76.trans (congrArg some (by kernel_rfl))
  f195 := Tryz.func138.trans (congrArg some (by kernel_rfl))
  f197 := Tryz.func139.trans (congrArg some (by kernel_rfl))
  f217 := Tryz.func151.trans (congrArg some (by kernel_rfl))
  f218 := Tryz.func140.trans (congrArg some (by kernel_rfl))
  f219 := Tryz.func121.trans (congrArg some (by kernel_rfl))
  f221 := Tryz.func74.trans (congrArg some (by kernel_rfl))
  f224 := Tryz.func153.trans (congrArg some (by kernel_rfl))
  f225 := Tryz.func152.trans (congrArg some (by kernel_rfl))
  f260 := Tryz.func165.trans (congrArg some (by kernel_rfl))
  f266 := Tryz.func170.trans (congrArg some (by kernel_rfl))
  f267 := Tryz.func154.trans (congrArg some (by kernel_rfl))
  f268 := Tryz.func104.trans (congrArg some (by kernel_rfl))
  f314 := Tryz.func171.trans (congrArg some (by kernel_rfl))
  t0 := Tryz.underlying0
  a0 := Tryz.isAgg0
  z0 := Tryz.sizeOf0
  v0 := Tryz.zeroValue0
  t3 := Tryz.underlying3
  a3 := Tryz.isAgg3
  z3 := Tryz.sizeOf3
  v3 := Tryz.zeroValue3
  t4 := Tryz.underlying4
  a4 := Tryz.isAgg4
  z4 := Tryz.sizeOf4
  v4 := Tryz.zeroValue4
  t5 := Tryz.underlying5
  a5 := Tryz.isAgg5
  z5 := Tryz.sizeOf5
  v5 := Tryz.zeroValue5
  t9 := Tryz.underlying9
  a9 := Tryz.isAgg9
  z9 := Tryz.sizeOf9
  v9 := Tryz.zeroValue9
  t21 := Tryz.underlying21
  a21 := Tryz.isAgg21
  z21 := Tryz.sizeOf21
  v21 := Tryz.zeroValue21
  t31 := Tryz.underlying65
  a31 := Tryz.isAgg65
  z31 := Tryz.sizeOf65
  v31 := Tryz.zeroValue65
  t46 := Tryz.underlying120
  a46 := Tryz.isAgg120
  z46 := Tryz.sizeOf120
  v46 := Tryz.zeroValue120
  t51 := Tryz.underlying24
  a51 := Tryz.isAgg24
  z51 := Tryz.sizeOf24
  v51 := Tryz.zeroValue24
  t105 := Tryz.underlying177
  a105 := Tryz.isAgg177
  z105 := Tryz.sizeOf177
  v105 := Tryz.zeroValue177
  t119 := Tryz.underlying213
  a119 := Tryz.isAgg213
  z119 := Tryz.sizeOf213
  t138 := Tryz.underlying215
  a138 := Tryz.isAgg215
  z138 := Tryz.sizeOf215
  v138 := Tryz.zeroValue215
  t139 := Tryz.underlying216
  a139 := Tryz.isAgg216
  z139 := Tryz.sizeOf216
  v139 := Tryz.zeroValue216
  t146 := Tryz.underlying204
  a146 := Tryz.isAgg204
  z146 := Tryz.sizeOf204
  v146 := Tryz.zeroValue204
  g1 := by kernel_rfl
  g3 := by kernel_rfl
  g4 := by kernel_rfl }
open Go.RowKit Go.Lib in
theorem Tryz.strings_Split (s sep : ByteArray) (m : Int) (w : World) (hs : s.size < 4294967281) (hm : w.cell? ⟨1, 0, none⟩ = some (.int .i64 m)) (h1 : 1 ≤ sep.size) :
    Calls Tryz.prog 76 #[.string s, .string sep] w fun e w' =>
      e = .returned (.slice (some ⟨w.heap.size, 0, none⟩) (Lib.countB s sep + 1) (Lib.countB s sep + 1)) ∧ w' = w.alloc (.cells ((Lib.splitB sep 0 (Lib.countB s sep) s).map Value.string).toArray 9) := Any.strings_Split Tryz.lays146 (by kernel_rfl) s sep m w hs hm h1
end Go.Proofs.YtpomloangafbkaaGreatDoor
