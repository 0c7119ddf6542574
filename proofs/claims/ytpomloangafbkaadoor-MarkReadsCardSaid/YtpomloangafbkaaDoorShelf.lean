/- Contracts of Go's library, laid at this program by the kit's tool. -/
import Derived.Test.YtpomloangafbkaaDoorKit
import Derived.Shelf.Strings.Builder2
import Derived.Shelf.Strings.OnBuilder
import Derived.Shelf.Strings.Builder2Cap
import Derived.Shelf.Strconv.Atoi
import Derived.Shelf.Strconv.Itoa0
import Derived.Shelf.Strconv.Itoa1
import Derived.Shelf.LaysM
import Derived.Shelf.Strconv.Itoa2
import Derived.Shelf.Strconv.Itoa3
import Derived.Shelf.Strconv.AtoiErrFast
import Derived.Shelf.Strconv.ParseIntEmpty
import Derived.Shelf.Strconv.AtoiFail
import Derived.Shelf.Strconv.Clone
import Derived.Shelf.Strconv.SyntaxError
import Derived.Shelf.LaysC
import Derived.Shelf.Strconv.ToError
import Derived.Shelf.Strconv.AtoiErr
import Derived.Shelf.Strconv.ErrVar
import Derived.Shelf.Strconv.Lower
import Derived.Shelf.Strconv.ParseUint10
import Derived.Shelf.Strconv.ParseUint10Empty
import Derived.Shelf.Strconv.ParseUint10Any
import Derived.Shelf.Strconv.ParseInt10
import Derived.Shelf.Strconv.AtoiLong
import Derived.Shelf.Strconv.AtoiInnerAll
import Derived.Shelf.Strconv.RangeError
import Derived.Shelf.Strconv.ToErrorRange
import Derived.Shelf.Strconv.AtoiAll
import Derived.Shelf.Strconv.ErrVarAll
import Derived.Shelf.Strconv.ParseUintEmpty
import Derived.Shelf.Strconv.ParseUint10b64
import Derived.Shelf.Strconv.ParseUint10b32
import Derived.Shelf.Strconv.ParseUint10b16
import Derived.Shelf.Strconv.ParseUint10b8
import Derived.Shelf.Strconv.ParseUint10At
import Derived.Ground.MpProg
import Derived.Shelf.Pu.ParseUintPublic10
import Derived.Shelf.Pu.ErrVarParseUint
import Derived.Shelf.Strings.Search1
import Derived.Shelf.Strings.Search2
import Derived.Shelf.Strings.Search3
import Derived.Shelf.Strings.Cut
import Derived.Shelf.Strings.Count
import Derived.Shelf.Strings.Split
import Derived.Shelf.Strings.RuneCount
import Derived.Shelf.Strings.BuilderCap
namespace Go.Proofs.YtpomloangafbkaaDoor
set_option linter.unusedVariables false
open Go Go.Proofs Go.Shelf
def Tryd.lays241_ren : Go.Shelf.Ren := ⟨fun | 241 => 73 | 277 => 98 | n => n, fun | 70 => 90 | 3 => 3 | 0 => 0 | 72 => 92 | 37 => 77 | 5 => 5 | n => n, fun | n => n⟩
theorem Tryd.lays241 : Go.Proofs.Lays.n241 Tryd.prog Tryd.lays241_ren := {
  mixed := by kernel_rfl
  f241 := Tryd.func73.trans (congrArg some (by kernel_rfl))
  f277 := Tryd.func98.trans (congrArg some (by kernel_rfl))
  t0 := Tryd.underlying0
  a0 := Tryd.isAgg0
  z0 := Tryd.sizeOf0
  v0 := Tryd.zeroValue0
  t3 := Tryd.underlying3
  a3 := Tryd.isAgg3
  z3 := Tryd.sizeOf3
  v3 := Tryd.zeroValue3
  t37 := Tryd.underlying77
  a37 := Tryd.isAgg77
  z37 := Tryd.sizeOf77
  v37 := Tryd.zeroValue77
  t70 := Tryd.underlying90
  a70 := Tryd.isAgg90
  z70 := Tryd.sizeOf90
  v70 := Tryd.zeroValue90
  t72 := Tryd.underlying92
  a72 := Tryd.isAgg92
  z72 := Tryd.sizeOf92
  v72 := Tryd.zeroValue92 }
theorem Tryd.Builder_Extra_241 : Builder.Extra Tryd.prog Tryd.lays241_ren := {
  sizeBuilder := by kernel_rfl
  liesBuilder := by kernel_rfl
  t5 := Tryd.underlying5
  a5 := Tryd.isAgg5
  z5 := Tryd.sizeOf5
  v5 := Tryd.zeroValue5
  infoByte := by kernel_rfl
  cellsByte := by kernel_rfl
  sizeByte := by kernel_rfl
  neB5 := by decide }
open Go.RowKit in
theorem Tryd.Builder_grow_fresh (B b n : Nat) (w : World) (hB : B ≤ b) (hbk : w.heap[b]? = some (.cells #[.pointer (some ⟨b, 0, none⟩), .slice none 0 0] 92 (0, 0))) (hBw : B ≤ w.heap.size) (hn : n ≤ 281474976710656) :
    Calls Tryd.prog 73 #[.pointer (some ⟨b, 0, none⟩), .int .i64 n] w fun e w' => e = .returned (.tuple #[]) ∧ (Lib.BuilderAt 92 5 B b (.pointer (some ⟨b, 0, none⟩)) [] w' ∧ Below B w w') := Any.Builder_grow_fresh Tryd.lays241 Tryd.Builder_Extra_241 B b n w hB hbk hBw hn
def Tryd.lays165_ren : Go.Shelf.Ren := ⟨fun | 165 => 56 | 240 => 72 | 241 => 73 | 276 => 97 | 277 => 98 | n => n, fun | 70 => 90 | 3 => 3 | 0 => 0 | 4 => 4 | 9 => 9 | 20 => 20 | 72 => 92 | 37 => 77 | 164 => 132 | 5 => 5 | n => n, fun | n => n⟩
theorem Tryd.lays165 : Go.Proofs.Lays.n165 Tryd.prog Tryd.lays165_ren := {
  mixed := by kernel_rfl
  f165 := Tryd.func56.trans (congrArg some (by kernel_rfl))
  f240 := Tryd.func72.trans (congrArg some (by kernel_rfl))
  f241 := Tryd.func73.trans (congrArg some (by kernel_rfl))
  f276 := Tryd.func97.trans (congrArg some (by kernel_rfl))
  f277 := Tryd.func98.trans (congrArg some (by kernel_rfl))
  t0 := Tryd.underlying0
  a0 := Tryd.isAgg0
  z0 := Tryd.sizeOf0
  v0 := Tryd.zeroValue0
  t3 := Tryd.underlying3
  a3 := Tryd.isAgg3
  z3 := Tryd.sizeOf3
  v3 := Tryd.zeroValue3
  t4 := Tryd.underlying4
  a4 := Tryd.isAgg4
  z4 := Tryd.sizeOf4
  v4 := Tryd.zeroValue4
  t9 := Tryd.underlying9
  a9 := Tryd.isAgg9
  z9 := Tryd.sizeOf9
  v9 := Tryd.zeroValue9
  t20 := Tryd.underlying20
  a20 := Tryd.isAgg20
  z20 := Tryd.sizeOf20
  v20 := Tryd.zeroValue20
  t37 := Tryd.underlying77
  a37 := Tryd.isAgg77
  z37 := Tryd.sizeOf77
  v37 := Tryd.zeroValue77
  t70 := Tryd.underlying90
  a70 := Tryd.isAgg90
  z70 := Tryd.sizeOf90
  v70 := Tryd.zeroValue90
  t72 := Tryd.underlying92
  a72 := Tryd.isAgg92
  z72 := Tryd.sizeOf92
  v72 := Tryd.zeroValue92
  t164 := Tryd.underlying132
  a164 := Tryd.isAgg132
  z164 := Tryd.sizeOf132
  v164 := Tryd.zeroValue132 }
theorem Tryd.Builder_Extra_165 : Builder.Extra Tryd.prog Tryd.lays165_ren := {
  sizeBuilder := by kernel_rfl
  liesBuilder := by kernel_rfl
  t5 := Tryd.underlying5
  a5 := Tryd.isAgg5
  z5 := Tryd.sizeOf5
  v5 := Tryd.zeroValue5
  infoByte := by kernel_rfl
  cellsByte := by kernel_rfl
  sizeByte := by kernel_rfl
  neB5 := by decide }
open Go.RowKit in
theorem Tryd.Builder_Grow_fresh (B b n : Nat) (w : World) (hB : B ≤ b) (hbk : w.heap[b]? = some (.cells #[.pointer none, .slice none 0 0] 92 (0, 0))) (hBw : B ≤ w.heap.size) (hn : n ≤ 281474976710656) :
    Calls Tryd.prog 56 #[.pointer (some ⟨b, 0, none⟩), .int .i64 n] w fun e w' => e = .returned (.tuple #[]) ∧ (Lib.BuilderAt 92 5 B b (.pointer (some ⟨b, 0, none⟩)) [] w' ∧ Below B w w') := Any.Builder_Grow_fresh Tryd.lays165 Tryd.Builder_Extra_165 B b n w hB hbk hBw hn
def Tryd.lays156_ren : Go.Shelf.Ren := ⟨fun | 156 => 40 | 165 => 56 | 166 => 57 | 169 => 58 | 240 => 72 | 241 => 73 | 276 => 97 | 277 => 98 | n => n, fun | 31 => 67 | 9 => 9 | 3 => 3 | 4 => 4 | 0 => 0 | 20 => 20 | 72 => 92 | 76 => 74 | 70 => 90 | 37 => 77 | 75 => 73 | 127 => 110 | 164 => 132 | 5 => 5 | 80 => 94 | n => n, fun | n => n⟩
theorem Tryd.lays156 : Go.Proofs.Lays.n156 Tryd.prog Tryd.lays156_ren := {
  mixed := by kernel_rfl
  f156 := Tryd.func40.trans (congrArg some (by kernel_rfl))
  f165 := Tryd.func56.trans (congrArg some (by kernel_rfl))
  f166 := Tryd.func57.trans (congrArg some (by kernel_rfl))
  f169 := Tryd.func58.trans (congrArg some (by kernel_rfl))
  f240 := Tryd.func72.trans (congrArg some (by kernel_rfl))
  f241 := Tryd.func73.trans (congrArg some (by kernel_rfl))
  f276 := Tryd.func97.trans (congrArg some (by kernel_rfl))
  f277 := Tryd.func98.trans (congrArg some (by kernel_rfl))
  t0 := Tryd.underlying0
  a0 := Tryd.isAgg0
  z0 := Tryd.sizeOf0
  v0 := Tryd.zeroValue0
  t3 := Tryd.underlying3
  a3 := Tryd.isAgg3
  z3 := Tryd.sizeOf3
  v3 := Tryd.zeroValue3
  t4 := Tryd.underlying4
  a4 := Tryd.isAgg4
  z4 := Tryd.sizeOf4
  v4 := Tryd.zeroValue4
  t9 := Tryd.underlying9
  a9 := Tryd.isAgg9
  z9 := Tryd.sizeOf9
  v9 := Tryd.zeroValue9
  t20 := Tryd.underlying20
  a20 := Tryd.isAgg20
  z20 := Tryd.sizeOf20
  v20 := Tryd.zeroValue20
  t31 := Tryd.underlying67
  a31 := Tryd.isAgg67
  z31 := Tryd.sizeOf67
  v31 := Tryd.zeroValue67
  t37 := Tryd.underlying77
  a37 := Tryd.isAgg77
  z37 := Tryd.sizeOf77
  v37 := Tryd.zeroValue77
  t70 := Tryd.underlying90
  a70 := Tryd.isAgg90
  z70 := Tryd.sizeOf90
  v70 := Tryd.zeroValue90
  t72 := Tryd.underlying92
  a72 := Tryd.isAgg92
  z72 := Tryd.sizeOf92
  v72 := Tryd.zeroValue92
  t75 := Tryd.underlying73
  a75 := Tryd.isAgg73
  z75 := Tryd.sizeOf73
  v75 := Tryd.zeroValue73
  t76 := Tryd.underlying74
  a76 := Tryd.isAgg74
  z76 := Tryd.sizeOf74
  v76 := Tryd.zeroValue74
  t127 := Tryd.underlying110
  a127 := Tryd.isAgg110
  z127 := Tryd.sizeOf110
  v127 := Tryd.zeroValue110
  t164 := Tryd.underlying132
  a164 := Tryd.isAgg132
  z164 := Tryd.sizeOf132
  v164 := Tryd.zeroValue132 }
theorem Tryd.Builder_Extra_156 : Builder.Extra Tryd.prog Tryd.lays156_ren := {
  sizeBuilder := by kernel_rfl
  liesBuilder := by kernel_rfl
  t5 := Tryd.underlying5
  a5 := Tryd.isAgg5
  z5 := Tryd.sizeOf5
  v5 := Tryd.zeroValue5
  infoByte := by kernel_rfl
  cellsByte := by kernel_rfl
  sizeByte := by kernel_rfl
  neB5 := by decide }
open Go.RowKit in
theorem Tryd.strings_Join_none (a : Option Addr) (c : Nat) (sep : ByteArray) (w : World) :
    Calls Tryd.prog 40 #[.slice a 0 c, .string sep] w fun e w' => e = .returned (.string ⟨#[]⟩) ∧ w' = w := Any.strings_Join_none Tryd.lays156 Tryd.Builder_Extra_156 a c sep w
open Go.RowKit in
theorem Tryd.strings_Join (bk o c : Nat) (xs : List ByteArray) (sep : ByteArray) (w : World) (hcells : ∀ (j : Nat) x, xs[j]? = some x → w.cell? ⟨bk, o + j, none⟩ = some (.string x)) (hbk : bk < w.heap.size) (hN : xs.length ≤ 140737488355328) (hcap : xs.length ≤ c) (hlen : (Lib.join (xs.map (·.data.toList)) sep.data.toList).length ≤ 140737488355328) :
    Calls Tryd.prog 40 #[.slice (some ⟨bk, o, none⟩) xs.length c, .string sep] w fun e w' => e = .returned (.string ⟨(Lib.join (xs.map (·.data.toList)) sep.data.toList).toArray⟩) ∧ Below w.heap.size w w' := Any.strings_Join Tryd.lays156 Tryd.Builder_Extra_156 bk o c xs sep w hcells hbk hN hcap hlen
open Go.RowKit in
theorem Tryd.Builder_grow_fresh_cap (B b n : Nat) (w : World) (hB : B ≤ b) (hbk : w.heap[b]? = some (.cells #[.pointer (some ⟨b, 0, none⟩), .slice none 0 0] 92 (0, 0))) (hBw : B ≤ w.heap.size) (hn : n ≤ 281474976710656) :
    Calls Tryd.prog 73 #[.pointer (some ⟨b, 0, none⟩), .int .i64 n] w fun e w' => e = .returned (.tuple #[]) ∧ (Lib.BuilderAt 92 5 B b (.pointer (some ⟨b, 0, none⟩)) [] w' ∧ Below B w w') ∧ ∃ p cap, w'.cell? ⟨b, 1, none⟩ = some (.slice p 0 cap) ∧ n ≤ cap := Any.Builder_grow_fresh_cap Tryd.lays241 Tryd.Builder_Extra_241 B b n w hB hbk hBw hn
open Go.RowKit in
theorem Tryd.Builder_Grow_fresh_cap (B b n : Nat) (w : World) (hB : B ≤ b) (hbk : w.heap[b]? = some (.cells #[.pointer none, .slice none 0 0] 92 (0, 0))) (hBw : B ≤ w.heap.size) (hn : n ≤ 281474976710656) :
    Calls Tryd.prog 56 #[.pointer (some ⟨b, 0, none⟩), .int .i64 n] w fun e w' => e = .returned (.tuple #[]) ∧ (Lib.BuilderAt 92 5 B b (.pointer (some ⟨b, 0, none⟩)) [] w' ∧ Below B w w') ∧ ∃ p cap, w'.cell? ⟨b, 1, none⟩ = some (.slice p 0 cap) ∧ n ≤ cap := Any.Builder_Grow_fresh_cap Tryd.lays165 Tryd.Builder_Extra_165 B b n w hB hbk hBw hn
def Tryd.lays244_ren : Go.Shelf.Ren := ⟨fun | 244 => 60 | 247 => 75 | 287 => 92 | 321 => 112 | 322 => 113 | n => n, fun | 9 => 9 | 3 => 3 | 75 => 73 | 4 => 4 | 5 => 5 | 167 => 112 | 37 => 77 | 0 => 0 | 85 => 113 | 2 => 2 | 53 => 34 | 175 => 107 | 46 => 62 | 21 => 21 | 80 => 94 | n => n, fun | n => n⟩
theorem Tryd.lays244 : Go.Proofs.Lays.n244 Tryd.prog Tryd.lays244_ren := {
  mixed := by kernel_rfl
  f244 := Tryd.func60.trans (congrArg some (by kernel_rfl))
  f247 := Tryd.func75.trans (congrArg some (by kernel_rfl))
  f287 := Tryd.func92.trans (congrArg some (by kernel_rfl))
  f321 := Tryd.func112.trans (congrArg some (by kernel_rfl))
  f322 := Tryd.func113.trans (congrArg some (by kernel_rfl))
  t0 := Tryd.underlying0
  a0 := Tryd.isAgg0
  z0 := Tryd.sizeOf0
  v0 := Tryd.zeroValue0
  t2 := Tryd.underlying2
  a2 := Tryd.isAgg2
  z2 := Tryd.sizeOf2
  v2 := Tryd.zeroValue2
  t3 := Tryd.underlying3
  a3 := Tryd.isAgg3
  z3 := Tryd.sizeOf3
  v3 := Tryd.zeroValue3
  t4 := Tryd.underlying4
  a4 := Tryd.isAgg4
  z4 := Tryd.sizeOf4
  v4 := Tryd.zeroValue4
  t5 := Tryd.underlying5
  a5 := Tryd.isAgg5
  z5 := Tryd.sizeOf5
  v5 := Tryd.zeroValue5
  t9 := Tryd.underlying9
  a9 := Tryd.isAgg9
  z9 := Tryd.sizeOf9
  v9 := Tryd.zeroValue9
  t21 := Tryd.underlying21
  a21 := Tryd.isAgg21
  z21 := Tryd.sizeOf21
  v21 := Tryd.zeroValue21
  t37 := Tryd.underlying77
  a37 := Tryd.isAgg77
  z37 := Tryd.sizeOf77
  v37 := Tryd.zeroValue77
  t46 := Tryd.underlying62
  a46 := Tryd.isAgg62
  z46 := Tryd.sizeOf62
  v46 := Tryd.zeroValue62
  t53 := Tryd.underlying34
  a53 := Tryd.isAgg34
  z53 := Tryd.sizeOf34
  v53 := Tryd.zeroValue34
  t75 := Tryd.underlying73
  a75 := Tryd.isAgg73
  z75 := Tryd.sizeOf73
  v75 := Tryd.zeroValue73
  t85 := Tryd.underlying113
  a85 := Tryd.isAgg113
  z85 := Tryd.sizeOf113
  v85 := Tryd.zeroValue113
  t167 := Tryd.underlying112
  a167 := Tryd.isAgg112
  z167 := Tryd.sizeOf112
  v167 := Tryd.zeroValue112
  t175 := Tryd.underlying107
  a175 := Tryd.isAgg107
  z175 := Tryd.sizeOf107
  v175 := Tryd.zeroValue107 }
open Go.RowKit in
theorem Tryd.internal_strconv_Atoi (s : ByteArray) (n : Int) (hl : s.size ≤ 18) (h : Lib.atoi s.data.toList = some n) (w : World) :
    Calls Tryd.prog 60 #[.string s] w fun e w' => e = .returned (.tuple #[.int .i64 n, .nilIface]) ∧ ∃ t, w' = Lib.bytesWorld w 5 t := Any.internal_strconv_Atoi Tryd.lays244 s n hl h w
def Tryd.lays172_ren : Go.Shelf.Ren := ⟨fun | 172 => 42 | 244 => 60 | 245 => 61 | 247 => 75 | 279 => 76 | 280 => 77 | 281 => 78 | 282 => 79 | 287 => 92 | 316 => 103 | 171 => 39 | 205 => 104 | 321 => 112 | 322 => 113 | 243 => 55 | 246 => 71 | 283 => 93 | 284 => 94 | 285 => 95 | 286 => 96 | 129 => 115 | 317 => 114 | 318 => 116 | 319 => 117 | 320 => 118 | 337 => 125 | 338 => 126 | n => n, fun | 9 => 9 | 3 => 3 | 75 => 73 | 76 => 74 | 4 => 4 | 5 => 5 | 167 => 112 | 37 => 77 | 0 => 0 | 85 => 113 | 2 => 2 | 168 => 115 | 53 => 34 | 175 => 107 | 46 => 62 | 210 => 139 | 127 => 110 | 145 => 158 | 143 => 156 | 21 => 21 | 171 => 127 | 173 => 130 | 212 => 150 | 51 => 28 | 20 => 20 | 213 => 151 | 232 => 170 | 233 => 171 | 80 => 94 | n => n, fun | 15 => 2 | 16 => 3 | 17 => 4 | 18 => 7 | 19 => 8 | n => n⟩
theorem Tryd.lays172 : Go.Proofs.Lays.n172 Tryd.prog Tryd.lays172_ren := {
  mixed := by kernel_rfl
  f129 := Tryd.func115.trans (congrArg some (by kernel_rfl))
  f171 := Tryd.func39.trans (congrArg some (by kernel_rfl))
  f172 := Tryd.func42.trans (congrArg some (by kernel_rfl))
  f205 := Tryd.func104.trans (congrArg some (by kernel_rfl))
  f243 := Tryd.func55.trans (congrArg some (by kernel_rfl))
  f244 := Tryd.func60.trans (congrArg some (by kernel_rfl))
  f245 := Tryd.func61.trans (congrArg some (by kernel_rfl))
  f246 := Tryd.func71.trans (congrArg some (by kernel_rfl))
  f247 := Tryd.func75.trans (congrArg some (by kernel_rfl))
  f279 := Tryd.func76.trans (congrArg some (by kernel_rfl))
  f280 := Tryd.func77.trans (congrArg some (by kernel_rfl))
  f281 := Tryd.func78.trans (congrArg some (by kernel_rfl))
  f282 := Tryd.func79.trans (congrArg some (by kernel_rfl))
  f283 := Tryd.func93.trans (congrArg some (by kernel_rfl))
  f284 := Tryd.func94.trans (congrArg some (by kernel_rfl))
  f285 := Tryd.func95.trans (congrArg some (by kernel_rfl))
  f286 := Tryd.func96.trans (congrArg some (by kernel_rfl))
  f287 := Tryd.func92.trans (congrArg some (by kernel_rfl))
  f316 := Tryd.func103.trans (congrArg some (by kernel_rfl))
  f317 := Tryd.func114.trans (congrArg some (by kernel_rfl))
  f318 := Tryd.func116.trans (congrArg some (by kernel_rfl))
  f319 := Tryd.func117.trans (congrArg some (by kernel_rfl))
  f320 := Tryd.func118.trans (congrArg some (by kernel_rfl))
  f321 := Tryd.func112.trans (congrArg some (by kernel_rfl))
  f322 := Tryd.func113.trans (congrArg some (by kernel_rfl))
  f337 := Tryd.func125.trans (congrArg some (by kernel_rfl))
  f338 := Tryd.func126.trans (congrArg some (by kernel_rfl))
  t0 := Tryd.underlying0
  a0 := Tryd.isAgg0
  z0 := Tryd.sizeOf0
  v0 := Tryd.zeroValue0
  t2 := Tryd.underlying2
  a2 := Tryd.isAgg2
  z2 := Tryd.sizeOf2
  v2 := Tryd.zeroValue2
  t3 := Tryd.underlying3
  a3 := Tryd.isAgg3
  z3 := Tryd.sizeOf3
  v3 := Tryd.zeroValue3
  t4 := Tryd.underlying4
  a4 := Tryd.isAgg4
  z4 := Tryd.sizeOf4
  v4 := Tryd.zeroValue4
  t5 := Tryd.underlying5
  a5 := Tryd.isAgg5
  z5 := Tryd.sizeOf5
  v5 := Tryd.zeroValue5
  t9 := Tryd.underlying9
  a9 := Tryd.isAgg9
  z9 := Tryd.sizeOf9
  v9 := Tryd.zeroValue9
  t20 := Tryd.underlying20
  a20 := Tryd.isAgg20
  z20 := Tryd.sizeOf20
  v20 := Tryd.zeroValue20
  t21 := Tryd.underlying21
  a21 := Tryd.isAgg21
  z21 := Tryd.sizeOf21
  v21 := Tryd.zeroValue21
  t37 := Tryd.underlying77
  a37 := Tryd.isAgg77
  z37 := Tryd.sizeOf77
  v37 := Tryd.zeroValue77
  t46 := Tryd.underlying62
  a46 := Tryd.isAgg62
  z46 := Tryd.sizeOf62
  v46 := Tryd.zeroValue62
  t51 := Tryd.underlying28
  a51 := Tryd.isAgg28
  z51 := Tryd.sizeOf28
  v51 := Tryd.zeroValue28
  t53 := Tryd.underlying34
  a53 := Tryd.isAgg34
  z53 := Tryd.sizeOf34
  v53 := Tryd.zeroValue34
  t75 := Tryd.underlying73
  a75 := Tryd.isAgg73
  z75 := Tryd.sizeOf73
  v75 := Tryd.zeroValue73
  t76 := Tryd.underlying74
  a76 := Tryd.isAgg74
  z76 := Tryd.sizeOf74
  v76 := Tryd.zeroValue74
  t85 := Tryd.underlying113
  a85 := Tryd.isAgg113
  z85 := Tryd.sizeOf113
  v85 := Tryd.zeroValue113
  t127 := Tryd.underlying110
  a127 := Tryd.isAgg110
  z127 := Tryd.sizeOf110
  v127 := Tryd.zeroValue110
  t143 := Tryd.underlying156
  a143 := Tryd.isAgg156
  z143 := Tryd.sizeOf156
  v143 := Tryd.zeroValue156
  t145 := Tryd.underlying158
  a145 := Tryd.isAgg158
  z145 := Tryd.sizeOf158
  v145 := Tryd.zeroValue158
  t167 := Tryd.underlying112
  a167 := Tryd.isAgg112
  z167 := Tryd.sizeOf112
  v167 := Tryd.zeroValue112
  t168 := Tryd.underlying115
  a168 := Tryd.isAgg115
  z168 := Tryd.sizeOf115
  v168 := Tryd.zeroValue115
  t171 := Tryd.underlying127
  a171 := Tryd.isAgg127
  z171 := Tryd.sizeOf127
  v171 := Tryd.zeroValue127
  t173 := Tryd.underlying130
  a173 := Tryd.isAgg130
  z173 := Tryd.sizeOf130
  v173 := Tryd.zeroValue130
  t175 := Tryd.underlying107
  a175 := Tryd.isAgg107
  z175 := Tryd.sizeOf107
  v175 := Tryd.zeroValue107
  t210 := Tryd.underlying139
  a210 := Tryd.isAgg139
  z210 := Tryd.sizeOf139
  v210 := Tryd.zeroValue139
  t212 := Tryd.underlying150
  a212 := Tryd.isAgg150
  z212 := Tryd.sizeOf150
  v212 := Tryd.zeroValue150
  t213 := Tryd.underlying151
  a213 := Tryd.isAgg151
  z213 := Tryd.sizeOf151
  t232 := Tryd.underlying170
  a232 := Tryd.isAgg170
  z232 := Tryd.sizeOf170
  v232 := Tryd.zeroValue170
  t233 := Tryd.underlying171
  a233 := Tryd.isAgg171
  z233 := Tryd.sizeOf171
  v233 := Tryd.zeroValue171
  g15 := by kernel_rfl
  g16 := by kernel_rfl
  g17 := by kernel_rfl
  g18 := by kernel_rfl
  g19 := by kernel_rfl }
open Go.RowKit in
theorem Tryd.strconv_Atoi (s : ByteArray) (n : Int) (hl : s.size ≤ 18) (h : Lib.atoi s.data.toList = some n) (w : World) :
    Calls Tryd.prog 42 #[.string s] w fun e w' => e = .returned (.tuple #[.int .i64 n, .nilIface]) ∧ ∃ t, w' = Lib.bytesWorld w 5 t := Any.strconv_Atoi Tryd.lays172 s n hl h w
def Tryd.lays129_ren : Go.Shelf.Ren := ⟨fun | 129 => 115 | n => n, fun | 53 => 34 | 3 => 3 | 4 => 4 | 46 => 62 | 5 => 5 | 9 => 9 | n => n, fun | n => n⟩
theorem Tryd.lays129 : Go.Proofs.Lays.n129 Tryd.prog Tryd.lays129_ren := {
  mixed := by kernel_rfl
  f129 := Tryd.func115.trans (congrArg some (by kernel_rfl))
  t3 := Tryd.underlying3
  a3 := Tryd.isAgg3
  z3 := Tryd.sizeOf3
  v3 := Tryd.zeroValue3
  t4 := Tryd.underlying4
  a4 := Tryd.isAgg4
  z4 := Tryd.sizeOf4
  v4 := Tryd.zeroValue4
  t5 := Tryd.underlying5
  a5 := Tryd.isAgg5
  z5 := Tryd.sizeOf5
  v5 := Tryd.zeroValue5
  t9 := Tryd.underlying9
  a9 := Tryd.isAgg9
  z9 := Tryd.sizeOf9
  v9 := Tryd.zeroValue9
  t46 := Tryd.underlying62
  a46 := Tryd.isAgg62
  z46 := Tryd.sizeOf62
  v46 := Tryd.zeroValue62
  t53 := Tryd.underlying34
  a53 := Tryd.isAgg34
  z53 := Tryd.sizeOf34
  v53 := Tryd.zeroValue34 }
theorem Tryd.bits_Len64 (x : Int) (w : World) (h0 : 0 ≤ x) (h1 : x ≤ 18446744073709551615) :
    Calls Tryd.prog 115 #[.int .u64 x] w fun e w' => e = .returned (.int .i64 (Lib.bitLen x.toNat)) ∧ w' = w := Any.bits_Len64 Tryd.lays129 x w h0 h1
def Tryd.lays317_ren : Go.Shelf.Ren := ⟨fun | 317 => 114 | n => n, fun | 3 => 3 | 46 => 62 | n => n, fun | n => n⟩
theorem Tryd.lays317 : Go.Proofs.Lays.n317 Tryd.prog Tryd.lays317_ren := {
  mixed := by kernel_rfl
  f317 := Tryd.func114.trans (congrArg some (by kernel_rfl))
  t3 := Tryd.underlying3
  a3 := Tryd.isAgg3
  z3 := Tryd.sizeOf3
  v3 := Tryd.zeroValue3
  t46 := Tryd.underlying62
  a46 := Tryd.isAgg62
  z46 := Tryd.sizeOf62
  v46 := Tryd.zeroValue62 }
open Go.Lib in
theorem Tryd.internal_strconv_log10Pow2 (x : Nat) (h : x ≤ 64) (w : World) :
    Calls Tryd.prog 114 #[.int .i64 x] w fun e w' => e = .returned (.int .i64 (Lib.l10 x)) ∧ w' = w := Any.internal_strconv_log10Pow2 Tryd.lays317 x h w
def Tryd.lays318_ren : Go.Shelf.Ren := ⟨fun | 318 => 116 | n => n, fun | 3 => 3 | 4 => 4 | n => n, fun | n => n⟩
theorem Tryd.lays318 : Go.Proofs.Lays.n318 Tryd.prog Tryd.lays318_ren := {
  mixed := by kernel_rfl
  f318 := Tryd.func116.trans (congrArg some (by kernel_rfl))
  t3 := Tryd.underlying3
  a3 := Tryd.isAgg3
  z3 := Tryd.sizeOf3
  v3 := Tryd.zeroValue3
  t4 := Tryd.underlying4
  a4 := Tryd.isAgg4
  z4 := Tryd.sizeOf4
  v4 := Tryd.zeroValue4 }
open Go.Lib in
theorem Tryd.internal_strconv_bool2_int (b : Bool) (w : World) :
    Calls Tryd.prog 116 #[.bool b] w fun e w' => e = .returned (.int .i64 (if b then 1 else 0)) ∧ w' = w := Any.internal_strconv_bool2_int Tryd.lays318 b w
def Tryd.lays283_ren : Go.Shelf.Ren := ⟨fun | 283 => 93 | n => n, fun | 3 => 3 | 9 => 9 | 4 => 4 | n => n, fun | n => n⟩
theorem Tryd.lays283 : Go.Proofs.Lays.n283 Tryd.prog Tryd.lays283_ren := {
  mixed := by kernel_rfl
  f283 := Tryd.func93.trans (congrArg some (by kernel_rfl))
  t3 := Tryd.underlying3
  a3 := Tryd.isAgg3
  z3 := Tryd.sizeOf3
  v3 := Tryd.zeroValue3
  t4 := Tryd.underlying4
  a4 := Tryd.isAgg4
  z4 := Tryd.sizeOf4
  v4 := Tryd.zeroValue4
  t9 := Tryd.underlying9
  a9 := Tryd.isAgg9
  z9 := Tryd.sizeOf9
  v9 := Tryd.zeroValue9 }
open Go.Lib in
theorem Tryd.internal_strconv_small (i : Nat) (h : i < 100) (w : World) :
    Calls Tryd.prog 93 #[.int .i64 i] w fun e w' => e = .returned (.string ⟨(Lib.decDigits i).toArray⟩) ∧ w' = w := Any.internal_strconv_small Tryd.lays283 i h w
def Tryd.laysM284_ren : Go.Shelf.Ren := ⟨fun | 284 => 94 | 129 => 115 | 317 => 114 | 318 => 116 | n => n, fun | 53 => 34 | 3 => 3 | 212 => 150 | 0 => 0 | 4 => 4 | 46 => 62 | 5 => 5 | 9 => 9 | n => n, fun | 17 => 4 | n => n⟩
theorem Tryd.laysM284 : Go.Proofs.LaysM.n284 Tryd.prog Tryd.laysM284_ren := {
  mixed := by kernel_rfl
  f129 := Tryd.func115.trans (congrArg some (by kernel_rfl))
  f284 := Tryd.func94.trans (congrArg some (by kernel_rfl))
  f317 := Tryd.func114.trans (congrArg some (by kernel_rfl))
  f318 := Tryd.func116.trans (congrArg some (by kernel_rfl))
  t0 := Tryd.underlying0
  a0 := Tryd.isAgg0
  z0 := Tryd.sizeOf0
  v0 := Tryd.zeroValue0
  t3 := Tryd.underlying3
  a3 := Tryd.isAgg3
  z3 := Tryd.sizeOf3
  v3 := Tryd.zeroValue3
  t4 := Tryd.underlying4
  a4 := Tryd.isAgg4
  z4 := Tryd.sizeOf4
  v4 := Tryd.zeroValue4
  t5 := Tryd.underlying5
  a5 := Tryd.isAgg5
  z5 := Tryd.sizeOf5
  v5 := Tryd.zeroValue5
  t9 := Tryd.underlying9
  a9 := Tryd.isAgg9
  z9 := Tryd.sizeOf9
  v9 := Tryd.zeroValue9
  t46 := Tryd.underlying62
  a46 := Tryd.isAgg62
  z46 := Tryd.sizeOf62
  v46 := Tryd.zeroValue62
  t53 := Tryd.underlying34
  a53 := Tryd.isAgg34
  z53 := Tryd.sizeOf34
  v53 := Tryd.zeroValue34
  t212 := Tryd.underlying150
  a212 := Tryd.isAgg150
  z212 := Tryd.sizeOf150
  v212 := Tryd.zeroValue150
  g17 := by kernel_rfl
  i0 := by kernel_rfl
  i3 := by kernel_rfl
  i4 := by kernel_rfl
  i5 := by kernel_rfl
  i9 := by kernel_rfl
  i46 := by kernel_rfl
  i53 := by kernel_rfl
  i212 := by kernel_rfl
  m17 := by kernel_rfl }
open Go.Lib in
theorem Tryd.internal_strconv_numDigits (u : Nat) (h1 : 1 ≤ u) (h2 : u < 18446744073709551616) (w : World) (htab : Lib.TabIs Tryd.prog w "internal/strconv.uint64pow10" .u64 Lib.pow10Tab) :
    Calls Tryd.prog 94 #[.int .u64 u] w fun e w' => e = .returned (.int .i64 (Lib.nDigits u)) ∧ w' = w := Any.internal_strconv_numDigits Tryd.laysM284 u h1 h2 w htab
def Tryd.lays285_ren : Go.Shelf.Ren := ⟨fun | 285 => 95 | n => n, fun | 37 => 77 | 53 => 34 | 3 => 3 | 4 => 4 | 51 => 28 | 9 => 9 | 5 => 5 | 0 => 0 | n => n, fun | n => n⟩
theorem Tryd.lays285 : Go.Proofs.Lays.n285 Tryd.prog Tryd.lays285_ren := {
  mixed := by kernel_rfl
  f285 := Tryd.func95.trans (congrArg some (by kernel_rfl))
  t0 := Tryd.underlying0
  a0 := Tryd.isAgg0
  z0 := Tryd.sizeOf0
  v0 := Tryd.zeroValue0
  t3 := Tryd.underlying3
  a3 := Tryd.isAgg3
  z3 := Tryd.sizeOf3
  v3 := Tryd.zeroValue3
  t4 := Tryd.underlying4
  a4 := Tryd.isAgg4
  z4 := Tryd.sizeOf4
  v4 := Tryd.zeroValue4
  t5 := Tryd.underlying5
  a5 := Tryd.isAgg5
  z5 := Tryd.sizeOf5
  v5 := Tryd.zeroValue5
  t9 := Tryd.underlying9
  a9 := Tryd.isAgg9
  z9 := Tryd.sizeOf9
  v9 := Tryd.zeroValue9
  t37 := Tryd.underlying77
  a37 := Tryd.isAgg77
  z37 := Tryd.sizeOf77
  v37 := Tryd.zeroValue77
  t51 := Tryd.underlying28
  a51 := Tryd.isAgg28
  z51 := Tryd.sizeOf28
  v51 := Tryd.zeroValue28
  t53 := Tryd.underlying34
  a53 := Tryd.isAgg34
  z53 := Tryd.sizeOf34
  v53 := Tryd.zeroValue34 }
open Go.RowKit Go.Sort Go.Lib in
theorem Tryd.internal_strconv_formatBase10 (blk off cap : Nat) (u : Nat) (d : Array UInt8) (w : World) (hH : Holds (fun (b : UInt8) => Value.int .u8 (b.toNat : Int)) w blk off d) (hu : u < 10 ^ d.size) (hu64 : u < 18446744073709551616) (hsz : d.size < 4611686018427387904) :
    Calls Tryd.prog 95 #[.slice (some ⟨blk, off, none⟩) d.size cap, .int .u64 u] w fun e w' =>
      e = .returned (.tuple #[]) ∧ ∃ (n v' : Nat) (dk : Array UInt8), w' = (putRow (fun (b : UInt8) => Value.int .u8 (b.toNat : Int)) w blk off dk).drewN n ∧ FmtInv d.size u 0 v' dk := Any.internal_strconv_formatBase10 Tryd.lays285 blk off cap u d w hH hu hu64 hsz
def Tryd.laysM246_ren : Go.Shelf.Ren := ⟨fun | 246 => 71 | 283 => 93 | 284 => 94 | 285 => 95 | 286 => 96 | 129 => 115 | 317 => 114 | 318 => 116 | 319 => 117 | 320 => 118 | 337 => 125 | 338 => 126 | n => n, fun | 2 => 2 | 3 => 3 | 9 => 9 | 4 => 4 | 171 => 127 | 0 => 0 | 53 => 34 | 37 => 77 | 5 => 5 | 173 => 130 | 212 => 150 | 51 => 28 | 20 => 20 | 213 => 151 | 46 => 62 | 232 => 170 | 233 => 171 | n => n, fun | 17 => 4 | 18 => 7 | 19 => 8 | n => n⟩
theorem Tryd.laysM246 : Go.Proofs.LaysM.n246 Tryd.prog Tryd.laysM246_ren := {
  mixed := by kernel_rfl
  f129 := Tryd.func115.trans (congrArg some (by kernel_rfl))
  f246 := Tryd.func71.trans (congrArg some (by kernel_rfl))
  f283 := Tryd.func93.trans (congrArg some (by kernel_rfl))
  f284 := Tryd.func94.trans (congrArg some (by kernel_rfl))
  f285 := Tryd.func95.trans (congrArg some (by kernel_rfl))
  f286 := Tryd.func96.trans (congrArg some (by kernel_rfl))
  f317 := Tryd.func114.trans (congrArg some (by kernel_rfl))
  f318 := Tryd.func116.trans (congrArg some (by kernel_rfl))
  f319 := Tryd.func117.trans (congrArg some (by kernel_rfl))
  f320 := Tryd.func118.trans (congrArg some (by kernel_rfl))
  f337 := Tryd.func125.trans (congrArg some (by kernel_rfl))
  f338 := Tryd.func126.trans (congrArg some (by kernel_rfl))
  t0 := Tryd.underlying0
  a0 := Tryd.isAgg0
  z0 := Tryd.sizeOf0
  v0 := Tryd.zeroValue0
  t2 := Tryd.underlying2
  a2 := Tryd.isAgg2
  z2 := Tryd.sizeOf2
  v2 := Tryd.zeroValue2
  t3 := Tryd.underlying3
  a3 := Tryd.isAgg3
  z3 := Tryd.sizeOf3
  v3 := Tryd.zeroValue3
  t4 := Tryd.underlying4
  a4 := Tryd.isAgg4
  z4 := Tryd.sizeOf4
  v4 := Tryd.zeroValue4
  t5 := Tryd.underlying5
  a5 := Tryd.isAgg5
  z5 := Tryd.sizeOf5
  v5 := Tryd.zeroValue5
  t9 := Tryd.underlying9
  a9 := Tryd.isAgg9
  z9 := Tryd.sizeOf9
  v9 := Tryd.zeroValue9
  t20 := Tryd.underlying20
  a20 := Tryd.isAgg20
  z20 := Tryd.sizeOf20
  v20 := Tryd.zeroValue20
  t37 := Tryd.underlying77
  a37 := Tryd.isAgg77
  z37 := Tryd.sizeOf77
  v37 := Tryd.zeroValue77
  t46 := Tryd.underlying62
  a46 := Tryd.isAgg62
  z46 := Tryd.sizeOf62
  v46 := Tryd.zeroValue62
  t51 := Tryd.underlying28
  a51 := Tryd.isAgg28
  z51 := Tryd.sizeOf28
  v51 := Tryd.zeroValue28
  t53 := Tryd.underlying34
  a53 := Tryd.isAgg34
  z53 := Tryd.sizeOf34
  v53 := Tryd.zeroValue34
  t171 := Tryd.underlying127
  a171 := Tryd.isAgg127
  z171 := Tryd.sizeOf127
  v171 := Tryd.zeroValue127
  t173 := Tryd.underlying130
  a173 := Tryd.isAgg130
  z173 := Tryd.sizeOf130
  v173 := Tryd.zeroValue130
  t212 := Tryd.underlying150
  a212 := Tryd.isAgg150
  z212 := Tryd.sizeOf150
  v212 := Tryd.zeroValue150
  t213 := Tryd.underlying151
  a213 := Tryd.isAgg151
  z213 := Tryd.sizeOf151
  t232 := Tryd.underlying170
  a232 := Tryd.isAgg170
  z232 := Tryd.sizeOf170
  v232 := Tryd.zeroValue170
  t233 := Tryd.underlying171
  a233 := Tryd.isAgg171
  z233 := Tryd.sizeOf171
  v233 := Tryd.zeroValue171
  g17 := by kernel_rfl
  g18 := by kernel_rfl
  g19 := by kernel_rfl
  i0 := by kernel_rfl
  i2 := by kernel_rfl
  i3 := by kernel_rfl
  i4 := by kernel_rfl
  i5 := by kernel_rfl
  i9 := by kernel_rfl
  i20 := by kernel_rfl
  i37 := by kernel_rfl
  i46 := by kernel_rfl
  i51 := by kernel_rfl
  i53 := by kernel_rfl
  i171 := by kernel_rfl
  i173 := by kernel_rfl
  i212 := by kernel_rfl
  i232 := by kernel_rfl
  i233 := by kernel_rfl
  m17 := by kernel_rfl
  m18 := by kernel_rfl
  m19 := by kernel_rfl }
open Go.RowKit Go.Sort Go.Lib in
theorem Tryd.internal_strconv_FormatInt_10 (n : Int) (h0 : -9223372036854775808 ≤ n) (h1 : n ≤ 9223372036854775807) (w : World) (htab : Lib.TabIs Tryd.prog w "internal/strconv.uint64pow10" .u64 Lib.pow10Tab) :
    Calls Tryd.prog 71 #[.int .i64 n, .int .i64 10] w fun e w' => e = .returned (.string ⟨(Lib.itoa n).toArray⟩) ∧ ∃ k os, w' = grow (w.drewN k) os := Any.internal_strconv_FormatInt_10 Tryd.laysM246 n h0 h1 w htab
def Tryd.lays246_ren : Go.Shelf.Ren := ⟨fun | 246 => 71 | 283 => 93 | 284 => 94 | 285 => 95 | 286 => 96 | 129 => 115 | 317 => 114 | 318 => 116 | 319 => 117 | 320 => 118 | 337 => 125 | 338 => 126 | n => n, fun | 2 => 2 | 3 => 3 | 9 => 9 | 4 => 4 | 171 => 127 | 0 => 0 | 53 => 34 | 37 => 77 | 5 => 5 | 173 => 130 | 212 => 150 | 51 => 28 | 20 => 20 | 213 => 151 | 46 => 62 | 232 => 170 | 233 => 171 | n => n, fun | 17 => 4 | 18 => 7 | 19 => 8 | n => n⟩
theorem Tryd.lays246 : Go.Proofs.Lays.n246 Tryd.prog Tryd.lays246_ren := {
  mixed := by kernel_rfl
  f129 := Tryd.func115.trans (congrArg some (by kernel_rfl))
  f246 := Tryd.func71.trans (congrArg some (by kernel_rfl))
  f283 := Tryd.func93.trans (congrArg some (by kernel_rfl))
  f284 := Tryd.func94.trans (congrArg some (by kernel_rfl))
  f285 := Tryd.func95.trans (congrArg some (by kernel_rfl))
  f286 := Tryd.func96.trans (congrArg some (by kernel_rfl))
  f317 := Tryd.func114.trans (congrArg some (by kernel_rfl))
  f318 := Tryd.func116.trans (congrArg some (by kernel_rfl))
  f319 := Tryd.func117.trans (congrArg some (by kernel_rfl))
  f320 := Tryd.func118.trans (congrArg some (by kernel_rfl))
  f337 := Tryd.func125.trans (congrArg some (by kernel_rfl))
  f338 := Tryd.func126.trans (congrArg some (by kernel_rfl))
  t0 := Tryd.underlying0
  a0 := Tryd.isAgg0
  z0 := Tryd.sizeOf0
  v0 := Tryd.zeroValue0
  t2 := Tryd.underlying2
  a2 := Tryd.isAgg2
  z2 := Tryd.sizeOf2
  v2 := Tryd.zeroValue2
  t3 := Tryd.underlying3
  a3 := Tryd.isAgg3
  z3 := Tryd.sizeOf3
  v3 := Tryd.zeroValue3
  t4 := Tryd.underlying4
  a4 := Tryd.isAgg4
  z4 := Tryd.sizeOf4
  v4 := Tryd.zeroValue4
  t5 := Tryd.underlying5
  a5 := Tryd.isAgg5
  z5 := Tryd.sizeOf5
  v5 := Tryd.zeroValue5
  t9 := Tryd.underlying9
  a9 := Tryd.isAgg9
  z9 := Tryd.sizeOf9
  v9 := Tryd.zeroValue9
  t20 := Tryd.underlying20
  a20 := Tryd.isAgg20
  z20 := Tryd.sizeOf20
  v20 := Tryd.zeroValue20
  t37 := Tryd.underlying77
  a37 := Tryd.isAgg77
  z37 := Tryd.sizeOf77
  v37 := Tryd.zeroValue77
  t46 := Tryd.underlying62
  a46 := Tryd.isAgg62
  z46 := Tryd.sizeOf62
  v46 := Tryd.zeroValue62
  t51 := Tryd.underlying28
  a51 := Tryd.isAgg28
  z51 := Tryd.sizeOf28
  v51 := Tryd.zeroValue28
  t53 := Tryd.underlying34
  a53 := Tryd.isAgg34
  z53 := Tryd.sizeOf34
  v53 := Tryd.zeroValue34
  t171 := Tryd.underlying127
  a171 := Tryd.isAgg127
  z171 := Tryd.sizeOf127
  v171 := Tryd.zeroValue127
  t173 := Tryd.underlying130
  a173 := Tryd.isAgg130
  z173 := Tryd.sizeOf130
  v173 := Tryd.zeroValue130
  t212 := Tryd.underlying150
  a212 := Tryd.isAgg150
  z212 := Tryd.sizeOf150
  v212 := Tryd.zeroValue150
  t213 := Tryd.underlying151
  a213 := Tryd.isAgg151
  z213 := Tryd.sizeOf151
  t232 := Tryd.underlying170
  a232 := Tryd.isAgg170
  z232 := Tryd.sizeOf170
  v232 := Tryd.zeroValue170
  t233 := Tryd.underlying171
  a233 := Tryd.isAgg171
  z233 := Tryd.sizeOf171
  v233 := Tryd.zeroValue171
  g17 := by kernel_rfl
  g18 := by kernel_rfl
  g19 := by kernel_rfl }
open Go.RowKit Go.Sort Go.Lib in
theorem Tryd.internal_strconv_FormatInt_10_small (i : Nat) (hi : i < 100) (w : World) :
    Calls Tryd.prog 71 #[.int .i64 i, .int .i64 10] w fun e w' => e = .returned (.string ⟨(Lib.decDigits i).toArray⟩) ∧ w' = w := Any.internal_strconv_FormatInt_10_small Tryd.lays246 i hi w
def Tryd.laysM243_ren : Go.Shelf.Ren := ⟨fun | 243 => 55 | 246 => 71 | 283 => 93 | 284 => 94 | 285 => 95 | 286 => 96 | 129 => 115 | 317 => 114 | 318 => 116 | 319 => 117 | 320 => 118 | 337 => 125 | 338 => 126 | n => n, fun | 3 => 3 | 9 => 9 | 2 => 2 | 4 => 4 | 171 => 127 | 0 => 0 | 53 => 34 | 37 => 77 | 5 => 5 | 173 => 130 | 212 => 150 | 51 => 28 | 20 => 20 | 213 => 151 | 46 => 62 | 232 => 170 | 233 => 171 | n => n, fun | 17 => 4 | 18 => 7 | 19 => 8 | n => n⟩
theorem Tryd.laysM243 : Go.Proofs.LaysM.n243 Tryd.prog Tryd.laysM243_ren := {
  mixed := by kernel_rfl
  f129 := Tryd.func115.trans (congrArg some (by kernel_rfl))
  f243 := Tryd.func55.trans (congrArg some (by kernel_rfl))
  f246 := Tryd.func71.trans (congrArg some (by kernel_rfl))
  f283 := Tryd.func93.trans (congrArg some (by kernel_rfl))
  f284 := Tryd.func94.trans (congrArg some (by kernel_rfl))
  f285 := Tryd.func95.trans (congrArg some (by kernel_rfl))
  f286 := Tryd.func96.trans (congrArg some (by kernel_rfl))
  f317 := Tryd.func114.trans (congrArg some (by kernel_rfl))
  f318 := Tryd.func116.trans (congrArg some (by kernel_rfl))
  f319 := Tryd.func117.trans (congrArg some (by kernel_rfl))
  f320 := Tryd.func118.trans (congrArg some (by kernel_rfl))
  f337 := Tryd.func125.trans (congrArg some (by kernel_rfl))
  f338 := Tryd.func126.trans (congrArg some (by kernel_rfl))
  t0 := Tryd.underlying0
  a0 := Tryd.isAgg0
  z0 := Tryd.sizeOf0
  v0 := Tryd.zeroValue0
  t2 := Tryd.underlying2
  a2 := Tryd.isAgg2
  z2 := Tryd.sizeOf2
  v2 := Tryd.zeroValue2
  t3 := Tryd.underlying3
  a3 := Tryd.isAgg3
  z3 := Tryd.sizeOf3
  v3 := Tryd.zeroValue3
  t4 := Tryd.underlying4
  a4 := Tryd.isAgg4
  z4 := Tryd.sizeOf4
  v4 := Tryd.zeroValue4
  t5 := Tryd.underlying5
  a5 := Tryd.isAgg5
  z5 := Tryd.sizeOf5
  v5 := Tryd.zeroValue5
  t9 := Tryd.underlying9
  a9 := Tryd.isAgg9
  z9 := Tryd.sizeOf9
  v9 := Tryd.zeroValue9
  t20 := Tryd.underlying20
  a20 := Tryd.isAgg20
  z20 := Tryd.sizeOf20
  v20 := Tryd.zeroValue20
  t37 := Tryd.underlying77
  a37 := Tryd.isAgg77
  z37 := Tryd.sizeOf77
  v37 := Tryd.zeroValue77
  t46 := Tryd.underlying62
  a46 := Tryd.isAgg62
  z46 := Tryd.sizeOf62
  v46 := Tryd.zeroValue62
  t51 := Tryd.underlying28
  a51 := Tryd.isAgg28
  z51 := Tryd.sizeOf28
  v51 := Tryd.zeroValue28
  t53 := Tryd.underlying34
  a53 := Tryd.isAgg34
  z53 := Tryd.sizeOf34
  v53 := Tryd.zeroValue34
  t171 := Tryd.underlying127
  a171 := Tryd.isAgg127
  z171 := Tryd.sizeOf127
  v171 := Tryd.zeroValue127
  t173 := Tryd.underlying130
  a173 := Tryd.isAgg130
  z173 := Tryd.sizeOf130
  v173 := Tryd.zeroValue130
  t212 := Tryd.underlying150
  a212 := Tryd.isAgg150
  z212 := Tryd.sizeOf150
  v212 := Tryd.zeroValue150
  t213 := Tryd.underlying151
  a213 := Tryd.isAgg151
  z213 := Tryd.sizeOf151
  t232 := Tryd.underlying170
  a232 := Tryd.isAgg170
  z232 := Tryd.sizeOf170
  v232 := Tryd.zeroValue170
  t233 := Tryd.underlying171
  a233 := Tryd.isAgg171
  z233 := Tryd.sizeOf171
  v233 := Tryd.zeroValue171
  g17 := by kernel_rfl
  g18 := by kernel_rfl
  g19 := by kernel_rfl
  i0 := by kernel_rfl
  i2 := by kernel_rfl
  i3 := by kernel_rfl
  i4 := by kernel_rfl
  i5 := by kernel_rfl
  i9 := by kernel_rfl
  i20 := by kernel_rfl
  i37 := by kernel_rfl
  i46 := by kernel_rfl
  i51 := by kernel_rfl
  i53 := by kernel_rfl
  i171 := by kernel_rfl
  i173 := by kernel_rfl
  i212 := by kernel_rfl
  i232 := by kernel_rfl
  i233 := by kernel_rfl
  m17 := by kernel_rfl
  m18 := by kernel_rfl
  m19 := by kernel_rfl }
open Go.RowKit Go.Sort Go.Lib in
theorem Tryd.internal_strconv_Itoa (n : Int) (h0 : -9223372036854775808 ≤ n) (h1 : n ≤ 9223372036854775807) (w : World) (htab : Lib.TabIs Tryd.prog w "internal/strconv.uint64pow10" .u64 Lib.pow10Tab) :
    Calls Tryd.prog 55 #[.int .i64 n] w fun e w' => e = .returned (.string ⟨(Lib.itoa n).toArray⟩) ∧ ∃ k os, w' = grow (w.drewN k) os := Any.internal_strconv_Itoa Tryd.laysM243 n h0 h1 w htab
def Tryd.lays243_ren : Go.Shelf.Ren := ⟨fun | 243 => 55 | 246 => 71 | 283 => 93 | 284 => 94 | 285 => 95 | 286 => 96 | 129 => 115 | 317 => 114 | 318 => 116 | 319 => 117 | 320 => 118 | 337 => 125 | 338 => 126 | n => n, fun | 3 => 3 | 9 => 9 | 2 => 2 | 4 => 4 | 171 => 127 | 0 => 0 | 53 => 34 | 37 => 77 | 5 => 5 | 173 => 130 | 212 => 150 | 51 => 28 | 20 => 20 | 213 => 151 | 46 => 62 | 232 => 170 | 233 => 171 | n => n, fun | 17 => 4 | 18 => 7 | 19 => 8 | n => n⟩
theorem Tryd.lays243 : Go.Proofs.Lays.n243 Tryd.prog Tryd.lays243_ren := {
  mixed := by kernel_rfl
  f129 := Tryd.func115.trans (congrArg some (by kernel_rfl))
  f243 := Tryd.func55.trans (congrArg some (by kernel_rfl))
  f246 := Tryd.func71.trans (congrArg some (by kernel_rfl))
  f283 := Tryd.func93.trans (congrArg some (by kernel_rfl))
  f284 := Tryd.func94.trans (congrArg some (by kernel_rfl))
  f285 := Tryd.func95.trans (congrArg some (by kernel_rfl))
  f286 := Tryd.func96.trans (congrArg some (by kernel_rfl))
  f317 := Tryd.func114.trans (congrArg some (by kernel_rfl))
  f318 := Tryd.func116.trans (congrArg some (by kernel_rfl))
  f319 := Tryd.func117.trans (congrArg some (by kernel_rfl))
  f320 := Tryd.func118.trans (congrArg some (by kernel_rfl))
  f337 := Tryd.func125.trans (congrArg some (by kernel_rfl))
  f338 := Tryd.func126.trans (congrArg some (by kernel_rfl))
  t0 := Tryd.underlying0
  a0 := Tryd.isAgg0
  z0 := Tryd.sizeOf0
  v0 := Tryd.zeroValue0
  t2 := Tryd.underlying2
  a2 := Tryd.isAgg2
  z2 := Tryd.sizeOf2
  v2 := Tryd.zeroValue2
  t3 := Tryd.underlying3
  a3 := Tryd.isAgg3
  z3 := Tryd.sizeOf3
  v3 := Tryd.zeroValue3
  t4 := Tryd.underlying4
  a4 := Tryd.isAgg4
  z4 := Tryd.sizeOf4
  v4 := Tryd.zeroValue4
  t5 := Tryd.underlying5
  a5 := Tryd.isAgg5
  z5 := Tryd.sizeOf5
  v5 := Tryd.zeroValue5
  t9 := Tryd.underlying9
  a9 := Tryd.isAgg9
  z9 := Tryd.sizeOf9
  v9 := Tryd.zeroValue9
  t20 := Tryd.underlying20
  a20 := Tryd.isAgg20
  z20 := Tryd.sizeOf20
  v20 := Tryd.zeroValue20
  t37 := Tryd.underlying77
  a37 := Tryd.isAgg77
  z37 := Tryd.sizeOf77
  v37 := Tryd.zeroValue77
  t46 := Tryd.underlying62
  a46 := Tryd.isAgg62
  z46 := Tryd.sizeOf62
  v46 := Tryd.zeroValue62
  t51 := Tryd.underlying28
  a51 := Tryd.isAgg28
  z51 := Tryd.sizeOf28
  v51 := Tryd.zeroValue28
  t53 := Tryd.underlying34
  a53 := Tryd.isAgg34
  z53 := Tryd.sizeOf34
  v53 := Tryd.zeroValue34
  t171 := Tryd.underlying127
  a171 := Tryd.isAgg127
  z171 := Tryd.sizeOf127
  v171 := Tryd.zeroValue127
  t173 := Tryd.underlying130
  a173 := Tryd.isAgg130
  z173 := Tryd.sizeOf130
  v173 := Tryd.zeroValue130
  t212 := Tryd.underlying150
  a212 := Tryd.isAgg150
  z212 := Tryd.sizeOf150
  v212 := Tryd.zeroValue150
  t213 := Tryd.underlying151
  a213 := Tryd.isAgg151
  z213 := Tryd.sizeOf151
  t232 := Tryd.underlying170
  a232 := Tryd.isAgg170
  z232 := Tryd.sizeOf170
  v232 := Tryd.zeroValue170
  t233 := Tryd.underlying171
  a233 := Tryd.isAgg171
  z233 := Tryd.sizeOf171
  v233 := Tryd.zeroValue171
  g17 := by kernel_rfl
  g18 := by kernel_rfl
  g19 := by kernel_rfl }
open Go.RowKit Go.Sort Go.Lib in
theorem Tryd.internal_strconv_Itoa_small (i : Nat) (hi : i < 100) (w : World) :
    Calls Tryd.prog 55 #[.int .i64 i] w fun e w' => e = .returned (.string ⟨(Lib.decDigits i).toArray⟩) ∧ w' = w := Any.internal_strconv_Itoa_small Tryd.lays243 i hi w
def Tryd.laysM171_ren : Go.Shelf.Ren := ⟨fun | 171 => 39 | 243 => 55 | 246 => 71 | 283 => 93 | 284 => 94 | 285 => 95 | 286 => 96 | 129 => 115 | 317 => 114 | 318 => 116 | 319 => 117 | 320 => 118 | 337 => 125 | 338 => 126 | n => n, fun | 3 => 3 | 9 => 9 | 2 => 2 | 4 => 4 | 171 => 127 | 0 => 0 | 53 => 34 | 37 => 77 | 5 => 5 | 173 => 130 | 212 => 150 | 51 => 28 | 20 => 20 | 213 => 151 | 46 => 62 | 232 => 170 | 233 => 171 | n => n, fun | 17 => 4 | 18 => 7 | 19 => 8 | n => n⟩
theorem Tryd.laysM171 : Go.Proofs.LaysM.n171 Tryd.prog Tryd.laysM171_ren := {
  mixed := by kernel_rfl
  f129 := Tryd.func115.trans (congrArg some (by kernel_rfl))
  f171 := Tryd.func39.trans (congrArg some (by kernel_rfl))
  f243 := Tryd.func55.trans (congrArg some (by kernel_rfl))
  f246 := Tryd.func71.trans (congrArg some (by kernel_rfl))
  f283 := Tryd.func93.trans (congrArg some (by kernel_rfl))
  f284 := Tryd.func94.trans (congrArg some (by kernel_rfl))
  f285 := Tryd.func95.trans (congrArg some (by kernel_rfl))
  f286 := Tryd.func96.trans (congrArg some (by kernel_rfl))
  f317 := Tryd.func114.trans (congrArg some (by kernel_rfl))
  f318 := Tryd.func116.trans (congrArg some (by kernel_rfl))
  f319 := Tryd.func117.trans (congrArg some (by kernel_rfl))
  f320 := Tryd.func118.trans (congrArg some (by kernel_rfl))
  f337 := Tryd.func125.trans (congrArg some (by kernel_rfl))
  f338 := Tryd.func126.trans (congrArg some (by kernel_rfl))
  t0 := Tryd.underlying0
  a0 := Tryd.isAgg0
  z0 := Tryd.sizeOf0
  v0 := Tryd.zeroValue0
  t2 := Tryd.underlying2
  a2 := Tryd.isAgg2
  z2 := Tryd.sizeOf2
  v2 := Tryd.zeroValue2
  t3 := Tryd.underlying3
  a3 := Tryd.isAgg3
  z3 := Tryd.sizeOf3
  v3 := Tryd.zeroValue3
  t4 := Tryd.underlying4
  a4 := Tryd.isAgg4
  z4 := Tryd.sizeOf4
  v4 := Tryd.zeroValue4
  t5 := Tryd.underlying5
  a5 := Tryd.isAgg5
  z5 := Tryd.sizeOf5
  v5 := Tryd.zeroValue5
  t9 := Tryd.underlying9
  a9 := Tryd.isAgg9
  z9 := Tryd.sizeOf9
  v9 := Tryd.zeroValue9
  t20 := Tryd.underlying20
  a20 := Tryd.isAgg20
  z20 := Tryd.sizeOf20
  v20 := Tryd.zeroValue20
  t37 := Tryd.underlying77
  a37 := Tryd.isAgg77
  z37 := Tryd.sizeOf77
  v37 := Tryd.zeroValue77
  t46 := Tryd.underlying62
  a46 := Tryd.isAgg62
  z46 := Tryd.sizeOf62
  v46 := Tryd.zeroValue62
  t51 := Tryd.underlying28
  a51 := Tryd.isAgg28
  z51 := Tryd.sizeOf28
  v51 := Tryd.zeroValue28
  t53 := Tryd.underlying34
  a53 := Tryd.isAgg34
  z53 := Tryd.sizeOf34
  v53 := Tryd.zeroValue34
  t171 := Tryd.underlying127
  a171 := Tryd.isAgg127
  z171 := Tryd.sizeOf127
  v171 := Tryd.zeroValue127
  t173 := Tryd.underlying130
  a173 := Tryd.isAgg130
  z173 := Tryd.sizeOf130
  v173 := Tryd.zeroValue130
  t212 := Tryd.underlying150
  a212 := Tryd.isAgg150
  z212 := Tryd.sizeOf150
  v212 := Tryd.zeroValue150
  t213 := Tryd.underlying151
  a213 := Tryd.isAgg151
  z213 := Tryd.sizeOf151
  t232 := Tryd.underlying170
  a232 := Tryd.isAgg170
  z232 := Tryd.sizeOf170
  v232 := Tryd.zeroValue170
  t233 := Tryd.underlying171
  a233 := Tryd.isAgg171
  z233 := Tryd.sizeOf171
  v233 := Tryd.zeroValue171
  g17 := by kernel_rfl
  g18 := by kernel_rfl
  g19 := by kernel_rfl
  i0 := by kernel_rfl
  i2 := by kernel_rfl
  i3 := by kernel_rfl
  i4 := by kernel_rfl
  i5 := by kernel_rfl
  i9 := by kernel_rfl
  i20 := by kernel_rfl
  i37 := by kernel_rfl
  i46 := by kernel_rfl
  i51 := by kernel_rfl
  i53 := by kernel_rfl
  i171 := by kernel_rfl
  i173 := by kernel_rfl
  i212 := by kernel_rfl
  i232 := by kernel_rfl
  i233 := by kernel_rfl
  m17 := by kernel_rfl
  m18 := by kernel_rfl
  m19 := by kernel_rfl }
open Go.RowKit Go.Sort Go.Lib in
theorem Tryd.strconv_Itoa (n : Int) (h0 : -9223372036854775808 ≤ n) (h1 : n ≤ 9223372036854775807) (w : World) (htab : Lib.TabIs Tryd.prog w "internal/strconv.uint64pow10" .u64 Lib.pow10Tab) :
    Calls Tryd.prog 39 #[.int .i64 n] w fun e w' => e = .returned (.string ⟨(Lib.itoa n).toArray⟩) ∧ ∃ k os, w' = grow (w.drewN k) os := Any.strconv_Itoa Tryd.laysM171 n h0 h1 w htab
def Tryd.lays171_ren : Go.Shelf.Ren := ⟨fun | 171 => 39 | 243 => 55 | 246 => 71 | 283 => 93 | 284 => 94 | 285 => 95 | 286 => 96 | 129 => 115 | 317 => 114 | 318 => 116 | 319 => 117 | 320 => 118 | 337 => 125 | 338 => 126 | n => n, fun | 3 => 3 | 9 => 9 | 2 => 2 | 4 => 4 | 171 => 127 | 0 => 0 | 53 => 34 | 37 => 77 | 5 => 5 | 173 => 130 | 212 => 150 | 51 => 28 | 20 => 20 | 213 => 151 | 46 => 62 | 232 => 170 | 233 => 171 | n => n, fun | 17 => 4 | 18 => 7 | 19 => 8 | n => n⟩
theorem Tryd.lays171 : Go.Proofs.Lays.n171 Tryd.prog Tryd.lays171_ren := {
  mixed := by kernel_rfl
  f129 := Tryd.func115.trans (congrArg some (by kernel_rfl))
  f171 := Tryd.func39.trans (congrArg some (by kernel_rfl))
  f243 := Tryd.func55.trans (congrArg some (by kernel_rfl))
  f246 := Tryd.func71.trans (congrArg some (by kernel_rfl))
  f283 := Tryd.func93.trans (congrArg some (by kernel_rfl))
  f284 := Tryd.func94.trans (congrArg some (by kernel_rfl))
  f285 := Tryd.func95.trans (congrArg some (by kernel_rfl))
  f286 := Tryd.func96.trans (congrArg some (by kernel_rfl))
  f317 := Tryd.func114.trans (congrArg some (by kernel_rfl))
  f318 := Tryd.func116.trans (congrArg some (by kernel_rfl))
  f319 := Tryd.func117.trans (congrArg some (by kernel_rfl))
  f320 := Tryd.func118.trans (congrArg some (by kernel_rfl))
  f337 := Tryd.func125.trans (congrArg some (by kernel_rfl))
  f338 := Tryd.func126.trans (congrArg some (by kernel_rfl))
  t0 := Tryd.underlying0
  a0 := Tryd.isAgg0
  z0 := Tryd.sizeOf0
  v0 := Tryd.zeroValue0
  t2 := Tryd.underlying2
  a2 := Tryd.isAgg2
  z2 := Tryd.sizeOf2
  v2 := Tryd.zeroValue2
  t3 := Tryd.underlying3
  a3 := Tryd.isAgg3
  z3 := Tryd.sizeOf3
  v3 := Tryd.zeroValue3
  t4 := Tryd.underlying4
  a4 := Tryd.isAgg4
  z4 := Tryd.sizeOf4
  v4 := Tryd.zeroValue4
  t5 := Tryd.underlying5
  a5 := Tryd.isAgg5
  z5 := Tryd.sizeOf5
  v5 := Tryd.zeroValue5
  t9 := Tryd.underlying9
  a9 := Tryd.isAgg9
  z9 := Tryd.sizeOf9
  v9 := Tryd.zeroValue9
  t20 := Tryd.underlying20
  a20 := Tryd.isAgg20
  z20 := Tryd.sizeOf20
  v20 := Tryd.zeroValue20
  t37 := Tryd.underlying77
  a37 := Tryd.isAgg77
  z37 := Tryd.sizeOf77
  v37 := Tryd.zeroValue77
  t46 := Tryd.underlying62
  a46 := Tryd.isAgg62
  z46 := Tryd.sizeOf62
  v46 := Tryd.zeroValue62
  t51 := Tryd.underlying28
  a51 := Tryd.isAgg28
  z51 := Tryd.sizeOf28
  v51 := Tryd.zeroValue28
  t53 := Tryd.underlying34
  a53 := Tryd.isAgg34
  z53 := Tryd.sizeOf34
  v53 := Tryd.zeroValue34
  t171 := Tryd.underlying127
  a171 := Tryd.isAgg127
  z171 := Tryd.sizeOf127
  v171 := Tryd.zeroValue127
  t173 := Tryd.underlying130
  a173 := Tryd.isAgg130
  z173 := Tryd.sizeOf130
  v173 := Tryd.zeroValue130
  t212 := Tryd.underlying150
  a212 := Tryd.isAgg150
  z212 := Tryd.sizeOf150
  v212 := Tryd.zeroValue150
  t213 := Tryd.underlying151
  a213 := Tryd.isAgg151
  z213 := Tryd.sizeOf151
  t232 := Tryd.underlying170
  a232 := Tryd.isAgg170
  z232 := Tryd.sizeOf170
  v232 := Tryd.zeroValue170
  t233 := Tryd.underlying171
  a233 := Tryd.isAgg171
  z233 := Tryd.sizeOf171
  v233 := Tryd.zeroValue171
  g17 := by kernel_rfl
  g18 := by kernel_rfl
  g19 := by kernel_rfl }
open Go.RowKit Go.Sort Go.Lib in
theorem Tryd.strconv_Itoa_small (i : Nat) (hi : i < 100) (w : World) :
    Calls Tryd.prog 39 #[.int .i64 i] w fun e w' => e = .returned (.string ⟨(Lib.decDigits i).toArray⟩) ∧ w' = w := Any.strconv_Itoa_small Tryd.lays171 i hi w
open Go.RowKit in
theorem Tryd.internal_strconv_Atoi_err (s : ByteArray) (hl0 : 1 ≤ s.size) (hl : s.size ≤ 18) (h : Lib.atoi s.data.toList = none) (w : World) :
    Calls Tryd.prog 60 #[.string s] w fun e w' => e = .returned (.tuple #[.int .i64 0, (.iface 112 (.int .i64 2))]) ∧ (w' = w ∨ ∃ t, w' = Lib.bytesWorld w 5 t) := Any.internal_strconv_Atoi_err Tryd.lays244 s hl0 hl h w
def Tryd.lays247_ren : Go.Shelf.Ren := ⟨fun | 247 => 75 | 287 => 92 | 321 => 112 | 322 => 113 | n => n, fun | 9 => 9 | 3 => 3 | 2 => 2 | 75 => 73 | 4 => 4 | 167 => 112 | 5 => 5 | 53 => 34 | 175 => 107 | 46 => 62 | 37 => 77 | 0 => 0 | 21 => 21 | 80 => 94 | n => n, fun | n => n⟩
theorem Tryd.lays247 : Go.Proofs.Lays.n247 Tryd.prog Tryd.lays247_ren := {
  mixed := by kernel_rfl
  f247 := Tryd.func75.trans (congrArg some (by kernel_rfl))
  f287 := Tryd.func92.trans (congrArg some (by kernel_rfl))
  f321 := Tryd.func112.trans (congrArg some (by kernel_rfl))
  f322 := Tryd.func113.trans (congrArg some (by kernel_rfl))
  t0 := Tryd.underlying0
  a0 := Tryd.isAgg0
  z0 := Tryd.sizeOf0
  v0 := Tryd.zeroValue0
  t2 := Tryd.underlying2
  a2 := Tryd.isAgg2
  z2 := Tryd.sizeOf2
  v2 := Tryd.zeroValue2
  t3 := Tryd.underlying3
  a3 := Tryd.isAgg3
  z3 := Tryd.sizeOf3
  v3 := Tryd.zeroValue3
  t4 := Tryd.underlying4
  a4 := Tryd.isAgg4
  z4 := Tryd.sizeOf4
  v4 := Tryd.zeroValue4
  t5 := Tryd.underlying5
  a5 := Tryd.isAgg5
  z5 := Tryd.sizeOf5
  v5 := Tryd.zeroValue5
  t9 := Tryd.underlying9
  a9 := Tryd.isAgg9
  z9 := Tryd.sizeOf9
  v9 := Tryd.zeroValue9
  t21 := Tryd.underlying21
  a21 := Tryd.isAgg21
  z21 := Tryd.sizeOf21
  v21 := Tryd.zeroValue21
  t37 := Tryd.underlying77
  a37 := Tryd.isAgg77
  z37 := Tryd.sizeOf77
  v37 := Tryd.zeroValue77
  t46 := Tryd.underlying62
  a46 := Tryd.isAgg62
  z46 := Tryd.sizeOf62
  v46 := Tryd.zeroValue62
  t53 := Tryd.underlying34
  a53 := Tryd.isAgg34
  z53 := Tryd.sizeOf34
  v53 := Tryd.zeroValue34
  t75 := Tryd.underlying73
  a75 := Tryd.isAgg73
  z75 := Tryd.sizeOf73
  v75 := Tryd.zeroValue73
  t167 := Tryd.underlying112
  a167 := Tryd.isAgg112
  z167 := Tryd.sizeOf112
  v167 := Tryd.zeroValue112
  t175 := Tryd.underlying107
  a175 := Tryd.isAgg107
  z175 := Tryd.sizeOf107
  v175 := Tryd.zeroValue107 }
open Go.RowKit in
theorem Tryd.internal_strconv_ParseInt_empty (base bits : Int) (w : World) :
    Calls Tryd.prog 75 #[.string ⟨#[]⟩, .int .i64 base, .int .i64 bits] w fun e w' => e = .returned (.tuple #[.int .i64 0, (.iface 112 (.int .i64 2))]) ∧ w' = w := Any.internal_strconv_ParseInt_empty Tryd.lays247 base bits w
open Go.RowKit in
theorem Tryd.internal_strconv_Atoi_empty (w : World) :
    Calls Tryd.prog 60 #[.string ⟨#[]⟩] w fun e w' => e = .returned (.tuple #[.int .i64 0, (.iface 112 (.int .i64 2))]) ∧ w' = w := Any.internal_strconv_Atoi_empty Tryd.lays244 w
open Go.RowKit in
theorem Tryd.internal_strconv_Atoi_fail (s : ByteArray) (hl : s.size ≤ 18) (h : Lib.atoi s.data.toList = none) (w : World) :
    Calls Tryd.prog 60 #[.string s] w fun e w' => e = .returned (.tuple #[.int .i64 0, (.iface 112 (.int .i64 2))]) ∧ (w' = w ∨ ∃ t, w' = Lib.bytesWorld w 5 t) := Any.internal_strconv_Atoi_fail Tryd.lays244 s hl h w
def Tryd.laysM316_ren : Go.Shelf.Ren := ⟨fun | 316 => 103 | n => n, fun | 9 => 9 | 3 => 3 | 4 => 4 | 37 => 77 | 0 => 0 | 127 => 110 | 5 => 5 | n => n, fun | n => n⟩
theorem Tryd.laysM316 : Go.Proofs.LaysM.n316 Tryd.prog Tryd.laysM316_ren := {
  mixed := by kernel_rfl
  f316 := Tryd.func103.trans (congrArg some (by kernel_rfl))
  t0 := Tryd.underlying0
  a0 := Tryd.isAgg0
  z0 := Tryd.sizeOf0
  v0 := Tryd.zeroValue0
  t3 := Tryd.underlying3
  a3 := Tryd.isAgg3
  z3 := Tryd.sizeOf3
  v3 := Tryd.zeroValue3
  t4 := Tryd.underlying4
  a4 := Tryd.isAgg4
  z4 := Tryd.sizeOf4
  v4 := Tryd.zeroValue4
  t9 := Tryd.underlying9
  a9 := Tryd.isAgg9
  z9 := Tryd.sizeOf9
  v9 := Tryd.zeroValue9
  t37 := Tryd.underlying77
  a37 := Tryd.isAgg77
  z37 := Tryd.sizeOf77
  v37 := Tryd.zeroValue77
  t127 := Tryd.underlying110
  a127 := Tryd.isAgg110
  z127 := Tryd.sizeOf110
  v127 := Tryd.zeroValue110
  t5 := Tryd.underlying5
  a5 := Tryd.isAgg5
  z5 := Tryd.sizeOf5
  v5 := Tryd.zeroValue5
  i0 := by kernel_rfl
  i3 := by kernel_rfl
  i4 := by kernel_rfl
  i5 := by kernel_rfl
  i9 := by kernel_rfl
  i37 := by kernel_rfl
  i127 := by kernel_rfl }
open Go.RowKit in
theorem Tryd.stringslite_Clone (s : ByteArray) (w : World) (hlim : s.size ≤ 281474976710656) :
    Calls Tryd.prog 103 #[.string s] w fun e w' => e = .returned (.string s) ∧ Below w.heap.size w w' := Any.stringslite_Clone Tryd.laysM316 s w hlim
def Tryd.laysM279_ren : Go.Shelf.Ren := ⟨fun | 279 => 76 | 316 => 103 | n => n, fun | 9 => 9 | 168 => 115 | 75 => 73 | 210 => 139 | 3 => 3 | 4 => 4 | 37 => 77 | 0 => 0 | 127 => 110 | 80 => 94 | 5 => 5 | n => n, fun | 15 => 2 | n => n⟩
theorem Tryd.laysM279 : Go.Proofs.LaysM.n279 Tryd.prog Tryd.laysM279_ren := {
  mixed := by kernel_rfl
  f279 := Tryd.func76.trans (congrArg some (by kernel_rfl))
  f316 := Tryd.func103.trans (congrArg some (by kernel_rfl))
  t0 := Tryd.underlying0
  a0 := Tryd.isAgg0
  z0 := Tryd.sizeOf0
  v0 := Tryd.zeroValue0
  t3 := Tryd.underlying3
  a3 := Tryd.isAgg3
  z3 := Tryd.sizeOf3
  v3 := Tryd.zeroValue3
  t4 := Tryd.underlying4
  a4 := Tryd.isAgg4
  z4 := Tryd.sizeOf4
  v4 := Tryd.zeroValue4
  t9 := Tryd.underlying9
  a9 := Tryd.isAgg9
  z9 := Tryd.sizeOf9
  v9 := Tryd.zeroValue9
  t37 := Tryd.underlying77
  a37 := Tryd.isAgg77
  z37 := Tryd.sizeOf77
  v37 := Tryd.zeroValue77
  t75 := Tryd.underlying73
  a75 := Tryd.isAgg73
  z75 := Tryd.sizeOf73
  v75 := Tryd.zeroValue73
  t127 := Tryd.underlying110
  a127 := Tryd.isAgg110
  z127 := Tryd.sizeOf110
  v127 := Tryd.zeroValue110
  t168 := Tryd.underlying115
  a168 := Tryd.isAgg115
  z168 := Tryd.sizeOf115
  v168 := Tryd.zeroValue115
  t210 := Tryd.underlying139
  a210 := Tryd.isAgg139
  z210 := Tryd.sizeOf139
  v210 := Tryd.zeroValue139
  g15 := by kernel_rfl
  t5 := Tryd.underlying5
  a5 := Tryd.isAgg5
  z5 := Tryd.sizeOf5
  v5 := Tryd.zeroValue5
  t80 := Tryd.underlying94
  a80 := Tryd.isAgg94
  z80 := Tryd.sizeOf94
  v80 := Tryd.zeroValue94
  i0 := by kernel_rfl
  i3 := by kernel_rfl
  i4 := by kernel_rfl
  i5 := by kernel_rfl
  i9 := by kernel_rfl
  i37 := by kernel_rfl
  i75 := by kernel_rfl
  i80 := by kernel_rfl
  i127 := by kernel_rfl
  i168 := by kernel_rfl
  i210 := by kernel_rfl
  m15 := by kernel_rfl }
open Go.RowKit in
theorem Tryd.strconv_syntaxError (fn s : ByteArray) (ev : Value) (w : World) (hlim : s.size ≤ 281474976710656) (hv : w.cell? ⟨2, 0, none⟩ = some ev) (hev : ev = .nilIface ∨ ∃ te pe, ev = .iface te pe) :
    Calls Tryd.prog 76 #[.string fn, .string s] w fun e w' => ∃ N, e = .returned (.pointer (some ⟨N, 0, none⟩)) ∧ w.heap.size ≤ N ∧ w'.heap[N]? = some (.cells #[.string fn, .string s, ev] 139 (0, 0)) ∧ Below w.heap.size w w' := Any.strconv_syntaxError Tryd.laysM279 fn s ev w hlim hv hev
def Tryd.laysC245_ren : Go.Shelf.Ren := ⟨fun | 245 => 61 | 279 => 76 | 280 => 77 | 281 => 78 | 282 => 79 | 316 => 103 | 171 => 39 | 205 => 104 | 243 => 55 | 246 => 71 | 283 => 93 | 284 => 94 | 285 => 95 | 286 => 96 | 129 => 115 | 317 => 114 | 318 => 116 | 319 => 117 | 320 => 118 | 337 => 125 | 338 => 126 | n => n, fun | 9 => 9 | 3 => 3 | 75 => 73 | 167 => 112 | 4 => 4 | 168 => 115 | 210 => 139 | 37 => 77 | 0 => 0 | 127 => 110 | 145 => 158 | 143 => 156 | 2 => 2 | 171 => 127 | 53 => 34 | 5 => 5 | 173 => 130 | 212 => 150 | 51 => 28 | 20 => 20 | 213 => 151 | 46 => 62 | 232 => 170 | 233 => 171 | 80 => 94 | n => n, fun | 15 => 2 | 16 => 3 | 17 => 4 | 18 => 7 | 19 => 8 | n => n⟩
theorem Tryd.laysC245 : Go.Proofs.LaysC.n245 Tryd.prog Tryd.laysC245_ren := {
  mixed := by kernel_rfl
  f129 := Tryd.func115.trans (congrArg some (by kernel_rfl))
  f171 := Tryd.func39.trans (congrArg some (by kernel_rfl))
  f205 := Tryd.func104.trans (congrArg some (by kernel_rfl))
  f243 := Tryd.func55.trans (congrArg some (by kernel_rfl))
  f245 := Tryd.func61.trans (congrArg some (by kernel_rfl))
  f246 := Tryd.func71.trans (congrArg some (by kernel_rfl))
  f279 := Tryd.func76.trans (congrArg some (by kernel_rfl))
  f280 := Tryd.func77.trans (congrArg some (by kernel_rfl))
  f281 := Tryd.func78.trans (congrArg some (by kernel_rfl))
  f282 := Tryd.func79.trans (congrArg some (by kernel_rfl))
  f283 := Tryd.func93.trans (congrArg some (by kernel_rfl))
  f284 := Tryd.func94.trans (congrArg some (by kernel_rfl))
  f285 := Tryd.func95.trans (congrArg some (by kernel_rfl))
  f286 := Tryd.func96.trans (congrArg some (by kernel_rfl))
  f316 := Tryd.func103.trans (congrArg some (by kernel_rfl))
  f317 := Tryd.func114.trans (congrArg some (by kernel_rfl))
  f318 := Tryd.func116.trans (congrArg some (by kernel_rfl))
  f319 := Tryd.func117.trans (congrArg some (by kernel_rfl))
  f320 := Tryd.func118.trans (congrArg some (by kernel_rfl))
  f337 := Tryd.func125.trans (congrArg some (by kernel_rfl))
  f338 := Tryd.func126.trans (congrArg some (by kernel_rfl))
  t0 := Tryd.underlying0
  a0 := Tryd.isAgg0
  z0 := Tryd.sizeOf0
  v0 := Tryd.zeroValue0
  t2 := Tryd.underlying2
  a2 := Tryd.isAgg2
  z2 := Tryd.sizeOf2
  v2 := Tryd.zeroValue2
  t3 := Tryd.underlying3
  a3 := Tryd.isAgg3
  z3 := Tryd.sizeOf3
  v3 := Tryd.zeroValue3
  t4 := Tryd.underlying4
  a4 := Tryd.isAgg4
  z4 := Tryd.sizeOf4
  v4 := Tryd.zeroValue4
  t5 := Tryd.underlying5
  a5 := Tryd.isAgg5
  z5 := Tryd.sizeOf5
  v5 := Tryd.zeroValue5
  t9 := Tryd.underlying9
  a9 := Tryd.isAgg9
  z9 := Tryd.sizeOf9
  v9 := Tryd.zeroValue9
  t20 := Tryd.underlying20
  a20 := Tryd.isAgg20
  z20 := Tryd.sizeOf20
  v20 := Tryd.zeroValue20
  t37 := Tryd.underlying77
  a37 := Tryd.isAgg77
  z37 := Tryd.sizeOf77
  v37 := Tryd.zeroValue77
  t46 := Tryd.underlying62
  a46 := Tryd.isAgg62
  z46 := Tryd.sizeOf62
  v46 := Tryd.zeroValue62
  t51 := Tryd.underlying28
  a51 := Tryd.isAgg28
  z51 := Tryd.sizeOf28
  v51 := Tryd.zeroValue28
  t53 := Tryd.underlying34
  a53 := Tryd.isAgg34
  z53 := Tryd.sizeOf34
  v53 := Tryd.zeroValue34
  t75 := Tryd.underlying73
  a75 := Tryd.isAgg73
  z75 := Tryd.sizeOf73
  v75 := Tryd.zeroValue73
  t127 := Tryd.underlying110
  a127 := Tryd.isAgg110
  z127 := Tryd.sizeOf110
  v127 := Tryd.zeroValue110
  t143 := Tryd.underlying156
  a143 := Tryd.isAgg156
  z143 := Tryd.sizeOf156
  v143 := Tryd.zeroValue156
  t145 := Tryd.underlying158
  a145 := Tryd.isAgg158
  z145 := Tryd.sizeOf158
  v145 := Tryd.zeroValue158
  t167 := Tryd.underlying112
  a167 := Tryd.isAgg112
  z167 := Tryd.sizeOf112
  v167 := Tryd.zeroValue112
  t168 := Tryd.underlying115
  a168 := Tryd.isAgg115
  z168 := Tryd.sizeOf115
  v168 := Tryd.zeroValue115
  t171 := Tryd.underlying127
  a171 := Tryd.isAgg127
  z171 := Tryd.sizeOf127
  v171 := Tryd.zeroValue127
  t173 := Tryd.underlying130
  a173 := Tryd.isAgg130
  z173 := Tryd.sizeOf130
  v173 := Tryd.zeroValue130
  t210 := Tryd.underlying139
  a210 := Tryd.isAgg139
  z210 := Tryd.sizeOf139
  v210 := Tryd.zeroValue139
  t212 := Tryd.underlying150
  a212 := Tryd.isAgg150
  z212 := Tryd.sizeOf150
  v212 := Tryd.zeroValue150
  t213 := Tryd.underlying151
  a213 := Tryd.isAgg151
  z213 := Tryd.sizeOf151
  t232 := Tryd.underlying170
  a232 := Tryd.isAgg170
  z232 := Tryd.sizeOf170
  v232 := Tryd.zeroValue170
  t233 := Tryd.underlying171
  a233 := Tryd.isAgg171
  z233 := Tryd.sizeOf171
  v233 := Tryd.zeroValue171
  g15 := by kernel_rfl
  g16 := by kernel_rfl
  g17 := by kernel_rfl
  g18 := by kernel_rfl
  g19 := by kernel_rfl
  t80 := Tryd.underlying94
  a80 := Tryd.isAgg94
  z80 := Tryd.sizeOf94
  v80 := Tryd.zeroValue94
  i0 := by kernel_rfl
  i2 := by kernel_rfl
  i3 := by kernel_rfl
  i4 := by kernel_rfl
  i5 := by kernel_rfl
  i9 := by kernel_rfl
  i20 := by kernel_rfl
  i37 := by kernel_rfl
  i46 := by kernel_rfl
  i51 := by kernel_rfl
  i53 := by kernel_rfl
  i75 := by kernel_rfl
  i80 := by kernel_rfl
  i127 := by kernel_rfl
  i143 := by kernel_rfl
  i145 := by kernel_rfl
  i167 := by kernel_rfl
  i168 := by kernel_rfl
  i171 := by kernel_rfl
  i173 := by kernel_rfl
  i210 := by kernel_rfl
  i212 := by kernel_rfl
  i232 := by kernel_rfl
  i233 := by kernel_rfl
  m15 := by kernel_rfl
  m16 := by kernel_rfl
  m17 := by kernel_rfl
  m18 := by kernel_rfl
  m19 := by kernel_rfl
  c0 := by kernel_rfl
  c2 := by kernel_rfl
  c3 := by kernel_rfl
  c4 := by kernel_rfl
  c5 := by kernel_rfl
  c9 := by kernel_rfl
  c20 := by kernel_rfl
  c37 := by kernel_rfl
  c46 := by kernel_rfl
  c51 := by kernel_rfl
  c53 := by kernel_rfl
  c75 := by kernel_rfl
  c80 := by kernel_rfl
  c127 := by kernel_rfl
  c143 := by kernel_rfl
  c145 := by kernel_rfl
  c167 := by kernel_rfl
  c168 := by kernel_rfl
  c171 := by kernel_rfl
  c173 := by kernel_rfl
  c210 := by kernel_rfl
  c212 := by kernel_rfl
  c213 := by kernel_rfl
  c232 := by kernel_rfl
  c233 := by kernel_rfl }
open Go.RowKit in
theorem Tryd.strconv_toError_syntax (fn s : ByteArray) (base bits : Int) (ev : Value) (w : World) (hlim : s.size ≤ 281474976710656) (hv : w.cell? ⟨2, 0, none⟩ = some ev) (hev : ev = .nilIface ∨ ∃ te pe, ev = .iface te pe) :
    Calls Tryd.prog 61 #[.string fn, .string s, .int .i64 base, .int .i64 bits, .iface 112 (.int .i64 2)] w fun e w' => ∃ N, e = .returned (.iface 115 (.pointer (some ⟨N, 0, none⟩))) ∧ w.heap.size ≤ N ∧ w'.heap[N]? = some (.cells #[.string fn, .string s, ev] 139 (0, 0)) ∧ Below w.heap.size w w' := Any.strconv_toError_syntax Tryd.laysC245 fn s base bits ev w hlim hv hev
def Tryd.laysC172_ren : Go.Shelf.Ren := ⟨fun | 172 => 42 | 244 => 60 | 245 => 61 | 247 => 75 | 279 => 76 | 280 => 77 | 281 => 78 | 282 => 79 | 287 => 92 | 316 => 103 | 171 => 39 | 205 => 104 | 321 => 112 | 322 => 113 | 243 => 55 | 246 => 71 | 283 => 93 | 284 => 94 | 285 => 95 | 286 => 96 | 129 => 115 | 317 => 114 | 318 => 116 | 319 => 117 | 320 => 118 | 337 => 125 | 338 => 126 | n => n, fun | 9 => 9 | 3 => 3 | 75 => 73 | 76 => 74 | 4 => 4 | 5 => 5 | 167 => 112 | 37 => 77 | 0 => 0 | 85 => 113 | 2 => 2 | 168 => 115 | 53 => 34 | 175 => 107 | 46 => 62 | 210 => 139 | 127 => 110 | 145 => 158 | 143 => 156 | 21 => 21 | 171 => 127 | 173 => 130 | 212 => 150 | 51 => 28 | 20 => 20 | 213 => 151 | 232 => 170 | 233 => 171 | 80 => 94 | n => n, fun | 15 => 2 | 16 => 3 | 17 => 4 | 18 => 7 | 19 => 8 | n => n⟩
theorem Tryd.laysC172 : Go.Proofs.LaysC.n172 Tryd.prog Tryd.laysC172_ren := {
  mixed := by kernel_rfl
  f129 := Tryd.func115.trans (congrArg some (by kernel_rfl))
  f171 := Tryd.func39.trans (congrArg some (by kernel_rfl))
  f172 := Tryd.func42.trans (congrArg some (by kernel_rfl))
  f205 := Tryd.func104.trans (congrArg some (by kernel_rfl))
  f243 := Tryd.func55.trans (congrArg some (by kernel_rfl))
  f244 := Tryd.func60.trans (congrArg some (by kernel_rfl))
  f245 := Tryd.func61.trans (congrArg some (by kernel_rfl))
  f246 := Tryd.func71.trans (congrArg some (by kernel_rfl))
  f247 := Tryd.func75.trans (congrArg some (by kernel_rfl))
  f279 := Tryd.func76.trans (congrArg some (by kernel_rfl))
  f280 := Tryd.func77.trans (congrArg some (by kernel_rfl))
  f281 := Tryd.func78.trans (congrArg some (by kernel_rfl))
  f282 := Tryd.func79.trans (congrArg some (by kernel_rfl))
  f283 := Tryd.func93.trans (congrArg some (by kernel_rfl))
  f284 := Tryd.func94.trans (congrArg some (by kernel_rfl))
  f285 := Tryd.func95.trans (congrArg some (by kernel_rfl))
  f286 := Tryd.func96.trans (congrArg some (by kernel_rfl))
  f287 := Tryd.func92.trans (congrArg some (by kernel_rfl))
  f316 := Tryd.func103.trans (congrArg some (by kernel_rfl))
  f317 := Tryd.func114.trans (congrArg some (by kernel_rfl))
  f318 := Tryd.func116.trans (congrArg some (by kernel_rfl))
  f319 := Tryd.func117.trans (congrArg some (by kernel_rfl))
  f320 := Tryd.func118.trans (congrArg some (by kernel_rfl))
  f321 := Tryd.func112.trans (congrArg some (by kernel_rfl))
  f322 := Tryd.func113.trans (congrArg some (by kernel_rfl))
  f337 := Tryd.func125.trans (congrArg some (by kernel_rfl))
  f338 := Tryd.func126.trans (congrArg some (by kernel_rfl))
  t0 := Tryd.underlying0
  a0 := Tryd.isAgg0
  z0 := Tryd.sizeOf0
  v0 := Tryd.zeroValue0
  t2 := Tryd.underlying2
  a2 := Tryd.isAgg2
  z2 := Tryd.sizeOf2
  v2 := Tryd.zeroValue2
  t3 := Tryd.underlying3
  a3 := Tryd.isAgg3
  z3 := Tryd.sizeOf3
  v3 := Tryd.zeroValue3
  t4 := Tryd.underlying4
  a4 := Tryd.isAgg4
  z4 := Tryd.sizeOf4
  v4 := Tryd.zeroValue4
  t5 := Tryd.underlying5
  a5 := Tryd.isAgg5
  z5 := Tryd.sizeOf5
  v5 := Tryd.zeroValue5
  t9 := Tryd.underlying9
  a9 := Tryd.isAgg9
  z9 := Tryd.sizeOf9
  v9 := Tryd.zeroValue9
  t20 := Tryd.underlying20
  a20 := Tryd.isAgg20
  z20 := Tryd.sizeOf20
  v20 := Tryd.zeroValue20
  t21 := Tryd.underlying21
  a21 := Tryd.isAgg21
  z21 := Tryd.sizeOf21
  v21 := Tryd.zeroValue21
  t37 := Tryd.underlying77
  a37 := Tryd.isAgg77
  z37 := Tryd.sizeOf77
  v37 := Tryd.zeroValue77
  t46 := Tryd.underlying62
  a46 := Tryd.isAgg62
  z46 := Tryd.sizeOf62
  v46 := Tryd.zeroValue62
  t51 := Tryd.underlying28
  a51 := Tryd.isAgg28
  z51 := Tryd.sizeOf28
  v51 := Tryd.zeroValue28
  t53 := Tryd.underlying34
  a53 := Tryd.isAgg34
  z53 := Tryd.sizeOf34
  v53 := Tryd.zeroValue34
  t75 := Tryd.underlying73
  a75 := Tryd.isAgg73
  z75 := Tryd.sizeOf73
  v75 := Tryd.zeroValue73
  t76 := Tryd.underlying74
  a76 := Tryd.isAgg74
  z76 := Tryd.sizeOf74
  v76 := Tryd.zeroValue74
  t85 := Tryd.underlying113
  a85 := Tryd.isAgg113
  z85 := Tryd.sizeOf113
  v85 := Tryd.zeroValue113
  t127 := Tryd.underlying110
  a127 := Tryd.isAgg110
  z127 := Tryd.sizeOf110
  v127 := Tryd.zeroValue110
  t143 := Tryd.underlying156
  a143 := Tryd.isAgg156
  z143 := Tryd.sizeOf156
  v143 := Tryd.zeroValue156
  t145 := Tryd.underlying158
  a145 := Tryd.isAgg158
  z145 := Tryd.sizeOf158
  v145 := Tryd.zeroValue158
  t167 := Tryd.underlying112
  a167 := Tryd.isAgg112
  z167 := Tryd.sizeOf112
  v167 := Tryd.zeroValue112
  t168 := Tryd.underlying115
  a168 := Tryd.isAgg115
  z168 := Tryd.sizeOf115
  v168 := Tryd.zeroValue115
  t171 := Tryd.underlying127
  a171 := Tryd.isAgg127
  z171 := Tryd.sizeOf127
  v171 := Tryd.zeroValue127
  t173 := Tryd.underlying130
  a173 := Tryd.isAgg130
  z173 := Tryd.sizeOf130
  v173 := Tryd.zeroValue130
  t175 := Tryd.underlying107
  a175 := Tryd.isAgg107
  z175 := Tryd.sizeOf107
  v175 := Tryd.zeroValue107
  t210 := Tryd.underlying139
  a210 := Tryd.isAgg139
  z210 := Tryd.sizeOf139
  v210 := Tryd.zeroValue139
  t212 := Tryd.underlying150
  a212 := Tryd.isAgg150
  z212 := Tryd.sizeOf150
  v212 := Tryd.zeroValue150
  t213 := Tryd.underlying151
  a213 := Tryd.isAgg151
  z213 := Tryd.sizeOf151
  t232 := Tryd.underlying170
  a232 := Tryd.isAgg170
  z232 := Tryd.sizeOf170
  v232 := Tryd.zeroValue170
  t233 := Tryd.underlying171
  a233 := Tryd.isAgg171
  z233 := Tryd.sizeOf171
  v233 := Tryd.zeroValue171
  g15 := by kernel_rfl
  g16 := by kernel_rfl
  g17 := by kernel_rfl
  g18 := by kernel_rfl
  g19 := by kernel_rfl
  t80 := Tryd.underlying94
  a80 := Tryd.isAgg94
  z80 := Tryd.sizeOf94
  v80 := Tryd.zeroValue94
  i0 := by kernel_rfl
  i2 := by kernel_rfl
  i3 := by kernel_rfl
  i4 := by kernel_rfl
  i5 := by kernel_rfl
  i9 := by kernel_rfl
  i20 := by kernel_rfl
  i21 := by kernel_rfl
  i37 := by kernel_rfl
  i46 := by kernel_rfl
  i51 := by kernel_rfl
  i53 := by kernel_rfl
  i75 := by kernel_rfl
  i76 := by kernel_rfl
  i80 := by kernel_rfl
  i85 := by kernel_rfl
  i127 := by kernel_rfl
  i143 := by kernel_rfl
  i145 := by kernel_rfl
  i167 := by kernel_rfl
  i168 := by kernel_rfl
  i171 := by kernel_rfl
  i173 := by kernel_rfl
  i175 := by kernel_rfl
  i210 := by kernel_rfl
  i212 := by kernel_rfl
  i232 := by kernel_rfl
  i233 := by kernel_rfl
  m15 := by kernel_rfl
  m16 := by kernel_rfl
  m17 := by kernel_rfl
  m18 := by kernel_rfl
  m19 := by kernel_rfl
  c0 := by kernel_rfl
  c2 := by kernel_rfl
  c3 := by kernel_rfl
  c4 := by kernel_rfl
  c5 := by kernel_rfl
  c9 := by kernel_rfl
  c20 := by kernel_rfl
  c21 := by kernel_rfl
  c37 := by kernel_rfl
  c46 := by kernel_rfl
  c51 := by kernel_rfl
  c53 := by kernel_rfl
  c75 := by kernel_rfl
  c76 := by kernel_rfl
  c80 := by kernel_rfl
  c85 := by kernel_rfl
  c127 := by kernel_rfl
  c143 := by kernel_rfl
  c145 := by kernel_rfl
  c167 := by kernel_rfl
  c168 := by kernel_rfl
  c171 := by kernel_rfl
  c173 := by kernel_rfl
  c175 := by kernel_rfl
  c210 := by kernel_rfl
  c212 := by kernel_rfl
  c213 := by kernel_rfl
  c232 := by kernel_rfl
  c233 := by kernel_rfl }
open Go.RowKit in
theorem Tryd.strconv_Atoi_err (s : ByteArray) (hl : s.size ≤ 18) (h : Lib.atoi s.data.toList = none) (ev : Value) (w : World) (hv : w.cell? ⟨2, 0, none⟩ = some ev) (hev : ev = .nilIface ∨ ∃ te pe, ev = .iface te pe) :
    Calls Tryd.prog 42 #[.string s] w fun e w' => ∃ N, e = .returned (.tuple #[.int .i64 0, .iface 115 (.pointer (some ⟨N, 0, none⟩))]) ∧ w.heap.size ≤ N ∧ w'.heap[N]? = some (.cells #[.string ⟨#[65, 116, 111, 105]⟩, .string s, ev] 139 (0, 0)) ∧ Below w.heap.size w w' := Any.strconv_Atoi_err Tryd.laysC172 s hl h ev w hv hev
open Go.RowKit in
theorem Tryd.strconv_Atoi_err_var (s : ByteArray) (hl : s.size ≤ 18) (h : Lib.atoi s.data.toList = none) (tp : TypeId) (p : Value) (w : World) (hvar : w.var? Tryd.prog "strconv.ErrSyntax" = some #[.iface tp p]) :
    Calls Tryd.prog 42 #[.string s] w fun e w' => ∃ N, e = .returned (.tuple #[.int .i64 0, .iface 115 (.pointer (some ⟨N, 0, none⟩))]) ∧ w.heap.size ≤ N ∧ w'.heap[N]? = some (.cells #[.string ⟨#[65, 116, 111, 105]⟩, .string s, .iface tp p] 139 (0, 0)) ∧ Below w.heap.size w w' := Any.strconv_Atoi_err_var Tryd.laysC172 s hl h tp p w hvar
def Tryd.lays321_ren : Go.Shelf.Ren := ⟨fun | 321 => 112 | n => n, fun | 5 => 5 | n => n, fun | n => n⟩
theorem Tryd.lays321 : Go.Proofs.Lays.n321 Tryd.prog Tryd.lays321_ren := {
  mixed := by kernel_rfl
  f321 := Tryd.func112.trans (congrArg some (by kernel_rfl))
  t5 := Tryd.underlying5
  a5 := Tryd.isAgg5
  z5 := Tryd.sizeOf5
  v5 := Tryd.zeroValue5 }
open Go.RowKit in
theorem Tryd.internal_strconv_lower (c : Int) (w : World) :
    Calls Tryd.prog 112 #[.int .u8 c] w fun e w' => e = .returned (.int .u8 (bits .or .u8 c 32)) ∧ w' = w := Any.internal_strconv_lower Tryd.lays321 c w
def Tryd.lays287_ren : Go.Shelf.Ren := ⟨fun | 287 => 92 | 321 => 112 | 322 => 113 | n => n, fun | 9 => 9 | 3 => 3 | 53 => 34 | 75 => 73 | 4 => 4 | 167 => 112 | 5 => 5 | 46 => 62 | 37 => 77 | 0 => 0 | 21 => 21 | 80 => 94 | n => n, fun | n => n⟩
theorem Tryd.lays287 : Go.Proofs.Lays.n287 Tryd.prog Tryd.lays287_ren := {
  mixed := by kernel_rfl
  f287 := Tryd.func92.trans (congrArg some (by kernel_rfl))
  f321 := Tryd.func112.trans (congrArg some (by kernel_rfl))
  f322 := Tryd.func113.trans (congrArg some (by kernel_rfl))
  t0 := Tryd.underlying0
  a0 := Tryd.isAgg0
  z0 := Tryd.sizeOf0
  v0 := Tryd.zeroValue0
  t3 := Tryd.underlying3
  a3 := Tryd.isAgg3
  z3 := Tryd.sizeOf3
  v3 := Tryd.zeroValue3
  t4 := Tryd.underlying4
  a4 := Tryd.isAgg4
  z4 := Tryd.sizeOf4
  v4 := Tryd.zeroValue4
  t5 := Tryd.underlying5
  a5 := Tryd.isAgg5
  z5 := Tryd.sizeOf5
  v5 := Tryd.zeroValue5
  t9 := Tryd.underlying9
  a9 := Tryd.isAgg9
  z9 := Tryd.sizeOf9
  v9 := Tryd.zeroValue9
  t21 := Tryd.underlying21
  a21 := Tryd.isAgg21
  z21 := Tryd.sizeOf21
  v21 := Tryd.zeroValue21
  t37 := Tryd.underlying77
  a37 := Tryd.isAgg77
  z37 := Tryd.sizeOf77
  v37 := Tryd.zeroValue77
  t46 := Tryd.underlying62
  a46 := Tryd.isAgg62
  z46 := Tryd.sizeOf62
  v46 := Tryd.zeroValue62
  t53 := Tryd.underlying34
  a53 := Tryd.isAgg34
  z53 := Tryd.sizeOf34
  v53 := Tryd.zeroValue34
  t75 := Tryd.underlying73
  a75 := Tryd.isAgg73
  z75 := Tryd.sizeOf73
  v75 := Tryd.zeroValue73
  t167 := Tryd.underlying112
  a167 := Tryd.isAgg112
  z167 := Tryd.sizeOf112
  v167 := Tryd.zeroValue112 }
open Go.RowKit in
theorem Tryd.internal_strconv_ParseUint_10 (t : ByteArray) (hne : t.size ≠ 0) (hmax : t.size ≤ 9223372036854775806) (w : World) :
    Calls Tryd.prog 92 #[.string t, .int .i64 10, .int .i64 0] w fun e w' => e = .returned (Lib.uintTuple 112 (Lib.parseUint10 0 t.data.toList)) ∧ w' = Lib.bytesWorld w 5 t := Any.internal_strconv_ParseUint_10 Tryd.lays287 t hne hmax w
open Go.RowKit in
theorem Tryd.internal_strconv_ParseUint_10_empty (w : World) :
    Calls Tryd.prog 92 #[.string ⟨#[]⟩, .int .i64 10, .int .i64 0] w fun e w' => e = .returned (Lib.uintTuple 112 .syntax) ∧ w' = w := Any.internal_strconv_ParseUint_10_empty Tryd.lays287 w
open Go.RowKit in
theorem Tryd.internal_strconv_ParseUint_10_any (t : ByteArray) (hmax : t.size ≤ 9223372036854775806) (w : World) :
    Calls Tryd.prog 92 #[.string t, .int .i64 10, .int .i64 0] w fun e w' => e = .returned (Lib.uintTuple 112 (Lib.parseMag t.data.toList)) ∧ (w' = w ∨ w' = Lib.bytesWorld w 5 t) := Any.internal_strconv_ParseUint_10_any Tryd.lays287 t hmax w
def Tryd.laysC247_ren : Go.Shelf.Ren := ⟨fun | 247 => 75 | 287 => 92 | 321 => 112 | 322 => 113 | n => n, fun | 9 => 9 | 3 => 3 | 2 => 2 | 75 => 73 | 4 => 4 | 167 => 112 | 5 => 5 | 53 => 34 | 175 => 107 | 46 => 62 | 37 => 77 | 0 => 0 | 21 => 21 | 80 => 94 | n => n, fun | n => n⟩
theorem Tryd.laysC247 : Go.Proofs.LaysC.n247 Tryd.prog Tryd.laysC247_ren := {
  mixed := by kernel_rfl
  f247 := Tryd.func75.trans (congrArg some (by kernel_rfl))
  f287 := Tryd.func92.trans (congrArg some (by kernel_rfl))
  f321 := Tryd.func112.trans (congrArg some (by kernel_rfl))
  f322 := Tryd.func113.trans (congrArg some (by kernel_rfl))
  t0 := Tryd.underlying0
  a0 := Tryd.isAgg0
  z0 := Tryd.sizeOf0
  v0 := Tryd.zeroValue0
  t2 := Tryd.underlying2
  a2 := Tryd.isAgg2
  z2 := Tryd.sizeOf2
  v2 := Tryd.zeroValue2
  t3 := Tryd.underlying3
  a3 := Tryd.isAgg3
  z3 := Tryd.sizeOf3
  v3 := Tryd.zeroValue3
  t4 := Tryd.underlying4
  a4 := Tryd.isAgg4
  z4 := Tryd.sizeOf4
  v4 := Tryd.zeroValue4
  t5 := Tryd.underlying5
  a5 := Tryd.isAgg5
  z5 := Tryd.sizeOf5
  v5 := Tryd.zeroValue5
  t9 := Tryd.underlying9
  a9 := Tryd.isAgg9
  z9 := Tryd.sizeOf9
  v9 := Tryd.zeroValue9
  t21 := Tryd.underlying21
  a21 := Tryd.isAgg21
  z21 := Tryd.sizeOf21
  v21 := Tryd.zeroValue21
  t37 := Tryd.underlying77
  a37 := Tryd.isAgg77
  z37 := Tryd.sizeOf77
  v37 := Tryd.zeroValue77
  t46 := Tryd.underlying62
  a46 := Tryd.isAgg62
  z46 := Tryd.sizeOf62
  v46 := Tryd.zeroValue62
  t53 := Tryd.underlying34
  a53 := Tryd.isAgg34
  z53 := Tryd.sizeOf34
  v53 := Tryd.zeroValue34
  t75 := Tryd.underlying73
  a75 := Tryd.isAgg73
  z75 := Tryd.sizeOf73
  v75 := Tryd.zeroValue73
  t167 := Tryd.underlying112
  a167 := Tryd.isAgg112
  z167 := Tryd.sizeOf112
  v167 := Tryd.zeroValue112
  t175 := Tryd.underlying107
  a175 := Tryd.isAgg107
  z175 := Tryd.sizeOf107
  v175 := Tryd.zeroValue107
  t80 := Tryd.underlying94
  a80 := Tryd.isAgg94
  z80 := Tryd.sizeOf94
  v80 := Tryd.zeroValue94
  i0 := by kernel_rfl
  i2 := by kernel_rfl
  i3 := by kernel_rfl
  i4 := by kernel_rfl
  i5 := by kernel_rfl
  i9 := by kernel_rfl
  i21 := by kernel_rfl
  i37 := by kernel_rfl
  i46 := by kernel_rfl
  i53 := by kernel_rfl
  i75 := by kernel_rfl
  i80 := by kernel_rfl
  i167 := by kernel_rfl
  i175 := by kernel_rfl
  c0 := by kernel_rfl
  c2 := by kernel_rfl
  c3 := by kernel_rfl
  c4 := by kernel_rfl
  c5 := by kernel_rfl
  c9 := by kernel_rfl
  c21 := by kernel_rfl
  c37 := by kernel_rfl
  c46 := by kernel_rfl
  c53 := by kernel_rfl
  c75 := by kernel_rfl
  c80 := by kernel_rfl
  c167 := by kernel_rfl
  c175 := by kernel_rfl }
open Go.RowKit in
theorem Tryd.internal_strconv_ParseInt_10 (s : ByteArray) (hne : s.size ≠ 0) (hmax : s.size ≤ 9223372036854775806) (w : World) :
    Calls Tryd.prog 75 #[.string s, .int .i64 10, .int .i64 0] w fun e w' => e = .returned (Lib.intTuple 112 (Lib.atoiSat s.data.toList) (Lib.atoiAll s.data.toList)) ∧ (w' = w ∨ ∃ t, w' = Lib.bytesWorld w 5 t) := Any.internal_strconv_ParseInt_10 Tryd.laysC247 s hne hmax w
def Tryd.laysC244_ren : Go.Shelf.Ren := ⟨fun | 244 => 60 | 247 => 75 | 287 => 92 | 321 => 112 | 322 => 113 | n => n, fun | 9 => 9 | 3 => 3 | 75 => 73 | 4 => 4 | 5 => 5 | 167 => 112 | 37 => 77 | 0 => 0 | 85 => 113 | 2 => 2 | 53 => 34 | 175 => 107 | 46 => 62 | 21 => 21 | 80 => 94 | n => n, fun | n => n⟩
theorem Tryd.laysC244 : Go.Proofs.LaysC.n244 Tryd.prog Tryd.laysC244_ren := {
  mixed := by kernel_rfl
  f244 := Tryd.func60.trans (congrArg some (by kernel_rfl))
  f247 := Tryd.func75.trans (congrArg some (by kernel_rfl))
  f287 := Tryd.func92.trans (congrArg some (by kernel_rfl))
  f321 := Tryd.func112.trans (congrArg some (by kernel_rfl))
  f322 := Tryd.func113.trans (congrArg some (by kernel_rfl))
  t0 := Tryd.underlying0
  a0 := Tryd.isAgg0
  z0 := Tryd.sizeOf0
  v0 := Tryd.zeroValue0
  t2 := Tryd.underlying2
  a2 := Tryd.isAgg2
  z2 := Tryd.sizeOf2
  v2 := Tryd.zeroValue2
  t3 := Tryd.underlying3
  a3 := Tryd.isAgg3
  z3 := Tryd.sizeOf3
  v3 := Tryd.zeroValue3
  t4 := Tryd.underlying4
  a4 := Tryd.isAgg4
  z4 := Tryd.sizeOf4
  v4 := Tryd.zeroValue4
  t5 := Tryd.underlying5
  a5 := Tryd.isAgg5
  z5 := Tryd.sizeOf5
  v5 := Tryd.zeroValue5
  t9 := Tryd.underlying9
  a9 := Tryd.isAgg9
  z9 := Tryd.sizeOf9
  v9 := Tryd.zeroValue9
  t21 := Tryd.underlying21
  a21 := Tryd.isAgg21
  z21 := Tryd.sizeOf21
  v21 := Tryd.zeroValue21
  t37 := Tryd.underlying77
  a37 := Tryd.isAgg77
  z37 := Tryd.sizeOf77
  v37 := Tryd.zeroValue77
  t46 := Tryd.underlying62
  a46 := Tryd.isAgg62
  z46 := Tryd.sizeOf62
  v46 := Tryd.zeroValue62
  t53 := Tryd.underlying34
  a53 := Tryd.isAgg34
  z53 := Tryd.sizeOf34
  v53 := Tryd.zeroValue34
  t75 := Tryd.underlying73
  a75 := Tryd.isAgg73
  z75 := Tryd.sizeOf73
  v75 := Tryd.zeroValue73
  t85 := Tryd.underlying113
  a85 := Tryd.isAgg113
  z85 := Tryd.sizeOf113
  v85 := Tryd.zeroValue113
  t167 := Tryd.underlying112
  a167 := Tryd.isAgg112
  z167 := Tryd.sizeOf112
  v167 := Tryd.zeroValue112
  t175 := Tryd.underlying107
  a175 := Tryd.isAgg107
  z175 := Tryd.sizeOf107
  v175 := Tryd.zeroValue107
  t80 := Tryd.underlying94
  a80 := Tryd.isAgg94
  z80 := Tryd.sizeOf94
  v80 := Tryd.zeroValue94
  i0 := by kernel_rfl
  i2 := by kernel_rfl
  i3 := by kernel_rfl
  i4 := by kernel_rfl
  i5 := by kernel_rfl
  i9 := by kernel_rfl
  i21 := by kernel_rfl
  i37 := by kernel_rfl
  i46 := by kernel_rfl
  i53 := by kernel_rfl
  i75 := by kernel_rfl
  i80 := by kernel_rfl
  i85 := by kernel_rfl
  i167 := by kernel_rfl
  i175 := by kernel_rfl
  c0 := by kernel_rfl
  c2 := by kernel_rfl
  c3 := by kernel_rfl
  c4 := by kernel_rfl
  c5 := by kernel_rfl
  c9 := by kernel_rfl
  c21 := by kernel_rfl
  c37 := by kernel_rfl
  c46 := by kernel_rfl
  c53 := by kernel_rfl
  c75 := by kernel_rfl
  c80 := by kernel_rfl
  c85 := by kernel_rfl
  c167 := by kernel_rfl
  c175 := by kernel_rfl }
open Go.RowKit in
theorem Tryd.internal_strconv_Atoi_long (s : ByteArray) (h19 : 19 ≤ s.size) (hmax : s.size ≤ 9223372036854775806) (w : World) :
    Calls Tryd.prog 60 #[.string s] w fun e w' => e = .returned (Lib.intTuple 112 (Lib.atoiSat s.data.toList) (Lib.atoiAll s.data.toList)) ∧ (w' = w ∨ ∃ t, w' = Lib.bytesWorld w 5 t) := Any.internal_strconv_Atoi_long Tryd.laysC244 s h19 hmax w
open Go.RowKit in
theorem Tryd.internal_strconv_Atoi_all (s : ByteArray) (hmax : s.size ≤ 9223372036854775806) (w : World) :
    Calls Tryd.prog 60 #[.string s] w fun e w' => e = .returned (Lib.intTuple 112 (Lib.atoiSat s.data.toList) (Lib.atoiAll s.data.toList)) ∧ (w' = w ∨ ∃ t, w' = Lib.bytesWorld w 5 t) := Any.internal_strconv_Atoi_all Tryd.laysC244 s hmax w
def Tryd.laysM280_ren : Go.Shelf.Ren := ⟨fun | 280 => 77 | 316 => 103 | n => n, fun | 9 => 9 | 168 => 115 | 75 => 73 | 210 => 139 | 3 => 3 | 4 => 4 | 37 => 77 | 0 => 0 | 127 => 110 | 80 => 94 | 5 => 5 | n => n, fun | 16 => 3 | n => n⟩
theorem Tryd.laysM280 : Go.Proofs.LaysM.n280 Tryd.prog Tryd.laysM280_ren := {
  mixed := by kernel_rfl
  f280 := Tryd.func77.trans (congrArg some (by kernel_rfl))
  f316 := Tryd.func103.trans (congrArg some (by kernel_rfl))
  t0 := Tryd.underlying0
  a0 := Tryd.isAgg0
  z0 := Tryd.sizeOf0
  v0 := Tryd.zeroValue0
  t3 := Tryd.underlying3
  a3 := Tryd.isAgg3
  z3 := Tryd.sizeOf3
  v3 := Tryd.zeroValue3
  t4 := Tryd.underlying4
  a4 := Tryd.isAgg4
  z4 := Tryd.sizeOf4
  v4 := Tryd.zeroValue4
  t9 := Tryd.underlying9
  a9 := Tryd.isAgg9
  z9 := Tryd.sizeOf9
  v9 := Tryd.zeroValue9
  t37 := Tryd.underlying77
  a37 := Tryd.isAgg77
  z37 := Tryd.sizeOf77
  v37 := Tryd.zeroValue77
  t75 := Tryd.underlying73
  a75 := Tryd.isAgg73
  z75 := Tryd.sizeOf73
  v75 := Tryd.zeroValue73
  t127 := Tryd.underlying110
  a127 := Tryd.isAgg110
  z127 := Tryd.sizeOf110
  v127 := Tryd.zeroValue110
  t168 := Tryd.underlying115
  a168 := Tryd.isAgg115
  z168 := Tryd.sizeOf115
  v168 := Tryd.zeroValue115
  t210 := Tryd.underlying139
  a210 := Tryd.isAgg139
  z210 := Tryd.sizeOf139
  v210 := Tryd.zeroValue139
  g16 := by kernel_rfl
  t5 := Tryd.underlying5
  a5 := Tryd.isAgg5
  z5 := Tryd.sizeOf5
  v5 := Tryd.zeroValue5
  t80 := Tryd.underlying94
  a80 := Tryd.isAgg94
  z80 := Tryd.sizeOf94
  v80 := Tryd.zeroValue94
  i0 := by kernel_rfl
  i3 := by kernel_rfl
  i4 := by kernel_rfl
  i5 := by kernel_rfl
  i9 := by kernel_rfl
  i37 := by kernel_rfl
  i75 := by kernel_rfl
  i80 := by kernel_rfl
  i127 := by kernel_rfl
  i168 := by kernel_rfl
  i210 := by kernel_rfl
  m16 := by kernel_rfl }
open Go.RowKit in
theorem Tryd.strconv_rangeError (fn s : ByteArray) (ev : Value) (w : World) (hlim : s.size ≤ 281474976710656) (hv : w.cell? ⟨3, 0, none⟩ = some ev) (hev : ev = .nilIface ∨ ∃ te pe, ev = .iface te pe) :
    Calls Tryd.prog 77 #[.string fn, .string s] w fun e w' => ∃ N, e = .returned (.pointer (some ⟨N, 0, none⟩)) ∧ w.heap.size ≤ N ∧ w'.heap[N]? = some (.cells #[.string fn, .string s, ev] 139 (0, 0)) ∧ Below w.heap.size w w' := Any.strconv_rangeError Tryd.laysM280 fn s ev w hlim hv hev
open Go.RowKit in
theorem Tryd.strconv_toError_range (fn s : ByteArray) (base bits : Int) (ev : Value) (w : World) (hlim : s.size ≤ 281474976710656) (hv : w.cell? ⟨3, 0, none⟩ = some ev) (hev : ev = .nilIface ∨ ∃ te pe, ev = .iface te pe) :
    Calls Tryd.prog 61 #[.string fn, .string s, .int .i64 base, .int .i64 bits, .iface 112 (.int .i64 1)] w fun e w' => ∃ N, e = .returned (.iface 115 (.pointer (some ⟨N, 0, none⟩))) ∧ w.heap.size ≤ N ∧ w'.heap[N]? = some (.cells #[.string fn, .string s, ev] 139 (0, 0)) ∧ Below w.heap.size w w' := Any.strconv_toError_range Tryd.laysC245 fn s base bits ev w hlim hv hev
open Go.RowKit in
theorem Tryd.strconv_Atoi_ok (s : ByteArray) (hmax : s.size ≤ 9223372036854775806) (v : Int) (h : Lib.atoiAll s.data.toList = .ok v) (w : World) :
    Calls Tryd.prog 42 #[.string s] w fun e w' => e = .returned (.tuple #[.int .i64 v, .nilIface]) ∧ (w' = w ∨ ∃ t, w' = Lib.bytesWorld w 5 t) := Any.strconv_Atoi_ok Tryd.laysC172 s hmax v h w
open Go.RowKit in
theorem Tryd.strconv_Atoi_syntax (s : ByteArray) (hlim : s.size ≤ 281474976710656) (h : Lib.atoiAll s.data.toList = Go.Lib.NumEnd.syntax) (ev : Value) (w : World) (hv : w.cell? ⟨2, 0, none⟩ = some ev) (hev : ev = .nilIface ∨ ∃ te pe, ev = .iface te pe) :
    Calls Tryd.prog 42 #[.string s] w fun e w' => ∃ N, e = .returned (.tuple #[.int .i64 (0), .iface 115 (.pointer (some ⟨N, 0, none⟩))]) ∧ w.heap.size ≤ N ∧ w'.heap[N]? = some (.cells #[.string ⟨#[65, 116, 111, 105]⟩, .string s, ev] 139 (0, 0)) ∧ Below w.heap.size w w' := Any.strconv_Atoi_syntax Tryd.laysC172 s hlim h ev w hv hev
open Go.RowKit in
theorem Tryd.strconv_Atoi_range (s : ByteArray) (hlim : s.size ≤ 281474976710656) (h : Lib.atoiAll s.data.toList = .range) (ev : Value) (w : World) (hv : w.cell? ⟨3, 0, none⟩ = some ev) (hev : ev = .nilIface ∨ ∃ te pe, ev = .iface te pe) :
    Calls Tryd.prog 42 #[.string s] w fun e w' => ∃ N, e = .returned (.tuple #[.int .i64 (Lib.atoiSat s.data.toList), .iface 115 (.pointer (some ⟨N, 0, none⟩))]) ∧ w.heap.size ≤ N ∧ w'.heap[N]? = some (.cells #[.string ⟨#[65, 116, 111, 105]⟩, .string s, ev] 139 (0, 0)) ∧ Below w.heap.size w w' := Any.strconv_Atoi_range Tryd.laysC172 s hlim h ev w hv hev
open Go.RowKit in
theorem Tryd.strconv_Atoi_syntax_var (s : ByteArray) (hlim : s.size ≤ 281474976710656) (h : Lib.atoiAll s.data.toList = Go.Lib.NumEnd.syntax) (tp : TypeId) (p : Value) (w : World) (hvar : w.var? Tryd.prog "strconv.ErrSyntax" = some #[.iface tp p]) :
    Calls Tryd.prog 42 #[.string s] w fun e w' => ∃ N, e = .returned (.tuple #[.int .i64 0, .iface 115 (.pointer (some ⟨N, 0, none⟩))]) ∧ w.heap.size ≤ N ∧ w'.heap[N]? = some (.cells #[.string ⟨#[65, 116, 111, 105]⟩, .string s, .iface tp p] 139 (0, 0)) ∧ Below w.heap.size w w' := Any.strconv_Atoi_syntax_var Tryd.laysC172 s hlim h tp p w hvar
open Go.RowKit in
theorem Tryd.strconv_Atoi_range_var (s : ByteArray) (hlim : s.size ≤ 281474976710656) (h : Lib.atoiAll s.data.toList = .range) (tp : TypeId) (p : Value) (w : World) (hvar : w.var? Tryd.prog "strconv.ErrRange" = some #[.iface tp p]) :
    Calls Tryd.prog 42 #[.string s] w fun e w' => ∃ N, e = .returned (.tuple #[.int .i64 (Lib.atoiSat s.data.toList), .iface 115 (.pointer (some ⟨N, 0, none⟩))]) ∧ w.heap.size ≤ N ∧ w'.heap[N]? = some (.cells #[.string ⟨#[65, 116, 111, 105]⟩, .string s, .iface tp p] 139 (0, 0)) ∧ Below w.heap.size w w' := Any.strconv_Atoi_range_var Tryd.laysC172 s hlim h tp p w hvar
open Go.RowKit in
theorem Tryd.internal_strconv_ParseUint_empty (base bits : Int) (w : World) :
    Calls Tryd.prog 92 #[.string ⟨#[]⟩, .int .i64 base, .int .i64 bits] w fun e w' => e = .returned (.tuple #[.int .u64 0, .iface 112 (.int .i64 2)]) ∧ w' = w := Any.internal_strconv_ParseUint_empty Tryd.lays287 base bits w
open Go.RowKit in
theorem Tryd.internal_strconv_ParseUint_10_b64 (t : ByteArray) (hne : t.size ≠ 0) (hmax : t.size ≤ 9223372036854775806) (w : World) :
    Calls Tryd.prog 92 #[.string t, .int .i64 10, .int .i64 64] w fun e w' => e = .returned (Lib.uintTuple 112 (Lib.parseUint10 0 t.data.toList)) ∧ w' = Lib.bytesWorld w 5 t := Any.internal_strconv_ParseUint_10_b64 Tryd.lays287 t hne hmax w
open Go.RowKit in
theorem Tryd.internal_strconv_ParseUint_10_b32 (t : ByteArray) (hne : t.size ≠ 0) (hmax : t.size ≤ 9223372036854775806) (w : World) :
    Calls Tryd.prog 92 #[.string t, .int .i64 10, .int .i64 32] w fun e w' => e = .returned (Lib.uintTupleM 112 4294967295 (Lib.parseUintM 4294967295 0 t.data.toList)) ∧ w' = Lib.bytesWorld w 5 t := Any.internal_strconv_ParseUint_10_b32 Tryd.lays287 t hne hmax w
open Go.RowKit in
theorem Tryd.internal_strconv_ParseUint_10_b16 (t : ByteArray) (hne : t.size ≠ 0) (hmax : t.size ≤ 9223372036854775806) (w : World) :
    Calls Tryd.prog 92 #[.string t, .int .i64 10, .int .i64 16] w fun e w' => e = .returned (Lib.uintTupleM 112 65535 (Lib.parseUintM 65535 0 t.data.toList)) ∧ w' = Lib.bytesWorld w 5 t := Any.internal_strconv_ParseUint_10_b16 Tryd.lays287 t hne hmax w
open Go.RowKit in
theorem Tryd.internal_strconv_ParseUint_10_b8 (t : ByteArray) (hne : t.size ≠ 0) (hmax : t.size ≤ 9223372036854775806) (w : World) :
    Calls Tryd.prog 92 #[.string t, .int .i64 10, .int .i64 8] w fun e w' => e = .returned (Lib.uintTupleM 112 255 (Lib.parseUintM 255 0 t.data.toList)) ∧ w' = Lib.bytesWorld w 5 t := Any.internal_strconv_ParseUint_10_b8 Tryd.lays287 t hne hmax w
open Go.RowKit in
theorem Tryd.internal_strconv_ParseUint_10_at0 (t : ByteArray) (hmax : t.size ≤ 9223372036854775806) (w : World) :
    Calls Tryd.prog 92 #[.string t, .int .i64 10, .int .i64 0] w fun e w' => e = .returned (Lib.uintTupleM 112 18446744073709551615 (Lib.parseUintB 64 t.data.toList)) ∧ (w' = w ∨ w' = Lib.bytesWorld w 5 t) := Any.internal_strconv_ParseUint_10_at0 Tryd.lays287 t hmax w
open Go.RowKit in
theorem Tryd.internal_strconv_ParseUint_10_at64 (t : ByteArray) (hmax : t.size ≤ 9223372036854775806) (w : World) :
    Calls Tryd.prog 92 #[.string t, .int .i64 10, .int .i64 64] w fun e w' => e = .returned (Lib.uintTupleM 112 18446744073709551615 (Lib.parseUintB 64 t.data.toList)) ∧ (w' = w ∨ w' = Lib.bytesWorld w 5 t) := Any.internal_strconv_ParseUint_10_at64 Tryd.lays287 t hmax w
open Go.RowKit in
theorem Tryd.internal_strconv_ParseUint_10_at32 (t : ByteArray) (hmax : t.size ≤ 9223372036854775806) (w : World) :
    Calls Tryd.prog 92 #[.string t, .int .i64 10, .int .i64 32] w fun e w' => e = .returned (Lib.uintTupleM 112 4294967295 (Lib.parseUintB 32 t.data.toList)) ∧ (w' = w ∨ w' = Lib.bytesWorld w 5 t) := Any.internal_strconv_ParseUint_10_at32 Tryd.lays287 t hmax w
open Go.RowKit in
theorem Tryd.internal_strconv_ParseUint_10_at16 (t : ByteArray) (hmax : t.size ≤ 9223372036854775806) (w : World) :
    Calls Tryd.prog 92 #[.string t, .int .i64 10, .int .i64 16] w fun e w' => e = .returned (Lib.uintTupleM 112 65535 (Lib.parseUintB 16 t.data.toList)) ∧ (w' = w ∨ w' = Lib.bytesWorld w 5 t) := Any.internal_strconv_ParseUint_10_at16 Tryd.lays287 t hmax w
open Go.RowKit in
theorem Tryd.internal_strconv_ParseUint_10_at8 (t : ByteArray) (hmax : t.size ≤ 9223372036854775806) (w : World) :
    Calls Tryd.prog 92 #[.string t, .int .i64 10, .int .i64 8] w fun e w' => e = .returned (Lib.uintTupleM 112 255 (Lib.parseUintB 8 t.data.toList)) ∧ (w' = w ∨ w' = Lib.bytesWorld w 5 t) := Any.internal_strconv_ParseUint_10_at8 Tryd.lays287 t hmax w
def Tryd.laysPu14_ren : Go.Shelf.Ren := ⟨fun | 14 => 70 | 16 => 92 | 17 => 61 | 19 => 112 | 20 => 113 | 21 => 76 | 22 => 77 | 23 => 78 | 24 => 79 | 25 => 103 | 27 => 39 | 26 => 104 | 28 => 55 | 29 => 71 | 30 => 93 | 31 => 94 | 32 => 95 | 33 => 96 | 35 => 115 | 34 => 114 | 36 => 116 | 37 => 117 | 38 => 118 | 39 => 125 | 40 => 126 | n => n, fun | 9 => 9 | 3 => 3 | 22 => 34 | 24 => 73 | 25 => 107 | 4 => 4 | 34 => 112 | 5 => 5 | 36 => 62 | 37 => 77 | 0 => 0 | 39 => 115 | 21 => 21 | 44 => 139 | 47 => 110 | 50 => 158 | 48 => 156 | 2 => 2 | 52 => 127 | 55 => 130 | 59 => 150 | 60 => 28 | 20 => 20 | 61 => 151 | 65 => 170 | 66 => 171 | 67 => 94 | n => n, fun | 0 => 2 | 1 => 3 | 2 => 4 | 3 => 7 | 4 => 8 | n => n⟩
theorem Tryd.laysPu14 : Go.Proofs.LaysPu.n14 Tryd.prog Tryd.laysPu14_ren := {
  mixed := by kernel_rfl
  f14 := Tryd.func70.trans (congrArg some (by kernel_rfl))
  f16 := Tryd.func92.trans (congrArg some (by kernel_rfl))
  f17 := Tryd.func61.trans (congrArg some (by kernel_rfl))
  f19 := Tryd.func112.trans (congrArg some (by kernel_rfl))
  f20 := Tryd.func113.trans (congrArg some (by kernel_rfl))
  f21 := Tryd.func76.trans (congrArg some (by kernel_rfl))
  f22 := Tryd.func77.trans (congrArg some (by kernel_rfl))
  f23 := Tryd.func78.trans (congrArg some (by kernel_rfl))
  f24 := Tryd.func79.trans (congrArg some (by kernel_rfl))
  f25 := Tryd.func103.trans (congrArg some (by kernel_rfl))
  f26 := Tryd.func104.trans (congrArg some (by kernel_rfl))
  f27 := Tryd.func39.trans (congrArg some (by kernel_rfl))
  f28 := Tryd.func55.trans (congrArg some (by kernel_rfl))
  f29 := Tryd.func71.trans (congrArg some (by kernel_rfl))
  f30 := Tryd.func93.trans (congrArg some (by kernel_rfl))
  f31 := Tryd.func94.trans (congrArg some (by kernel_rfl))
  f32 := Tryd.func95.trans (congrArg some (by kernel_rfl))
  f33 := Tryd.func96.trans (congrArg some (by kernel_rfl))
  f34 := Tryd.func114.trans (congrArg some (by kernel_rfl))
  f35 := Tryd.func115.trans (congrArg some (by kernel_rfl))
  f36 := Tryd.func116.trans (congrArg some (by kernel_rfl))
  f37 := Tryd.func117.trans (congrArg some (by kernel_rfl))
  f38 := Tryd.func118.trans (congrArg some (by kernel_rfl))
  f39 := Tryd.func125.trans (congrArg some (by kernel_rfl))
  f40 := Tryd.func126.trans (congrArg some (by kernel_rfl))
  t0 := Tryd.underlying0
  a0 := Tryd.isAgg0
  z0 := Tryd.sizeOf0
  v0 := Tryd.zeroValue0
  i0 := by kernel_rfl
  t2 := Tryd.underlying2
  a2 := Tryd.isAgg2
  z2 := Tryd.sizeOf2
  v2 := Tryd.zeroValue2
  i2 := by kernel_rfl
  t3 := Tryd.underlying3
  a3 := Tryd.isAgg3
  z3 := Tryd.sizeOf3
  v3 := Tryd.zeroValue3
  i3 := by kernel_rfl
  t4 := Tryd.underlying4
  a4 := Tryd.isAgg4
  z4 := Tryd.sizeOf4
  v4 := Tryd.zeroValue4
  i4 := by kernel_rfl
  t5 := Tryd.underlying5
  a5 := Tryd.isAgg5
  z5 := Tryd.sizeOf5
  v5 := Tryd.zeroValue5
  i5 := by kernel_rfl
  t9 := Tryd.underlying9
  a9 := Tryd.isAgg9
  z9 := Tryd.sizeOf9
  v9 := Tryd.zeroValue9
  i9 := by kernel_rfl
  t20 := Tryd.underlying20
  a20 := Tryd.isAgg20
  z20 := Tryd.sizeOf20
  v20 := Tryd.zeroValue20
  i20 := by kernel_rfl
  t21 := Tryd.underlying21
  a21 := Tryd.isAgg21
  z21 := Tryd.sizeOf21
  v21 := Tryd.zeroValue21
  i21 := by kernel_rfl
  t22 := Tryd.underlying34
  a22 := Tryd.isAgg34
  z22 := Tryd.sizeOf34
  v22 := Tryd.zeroValue34
  i22 := by kernel_rfl
  t24 := Tryd.underlying73
  a24 := Tryd.isAgg73
  z24 := Tryd.sizeOf73
  v24 := Tryd.zeroValue73
  i24 := by kernel_rfl
  t25 := Tryd.underlying107
  a25 := Tryd.isAgg107
  z25 := Tryd.sizeOf107
  v25 := Tryd.zeroValue107
  i25 := by kernel_rfl
  t34 := Tryd.underlying112
  a34 := Tryd.isAgg112
  z34 := Tryd.sizeOf112
  v34 := Tryd.zeroValue112
  i34 := by kernel_rfl
  c34 := by kernel_rfl
  t36 := Tryd.underlying62
  a36 := Tryd.isAgg62
  z36 := Tryd.sizeOf62
  v36 := Tryd.zeroValue62
  i36 := by kernel_rfl
  t37 := Tryd.underlying77
  a37 := Tryd.isAgg77
  z37 := Tryd.sizeOf77
  v37 := Tryd.zeroValue77
  i37 := by kernel_rfl
  t39 := Tryd.underlying115
  a39 := Tryd.isAgg115
  z39 := Tryd.sizeOf115
  v39 := Tryd.zeroValue115
  i39 := by kernel_rfl
  t44 := Tryd.underlying139
  a44 := Tryd.isAgg139
  z44 := Tryd.sizeOf139
  v44 := Tryd.zeroValue139
  i44 := by kernel_rfl
  t47 := Tryd.underlying110
  a47 := Tryd.isAgg110
  z47 := Tryd.sizeOf110
  v47 := Tryd.zeroValue110
  i47 := by kernel_rfl
  t48 := Tryd.underlying156
  a48 := Tryd.isAgg156
  z48 := Tryd.sizeOf156
  v48 := Tryd.zeroValue156
  i48 := by kernel_rfl
  t50 := Tryd.underlying158
  a50 := Tryd.isAgg158
  z50 := Tryd.sizeOf158
  v50 := Tryd.zeroValue158
  i50 := by kernel_rfl
  t52 := Tryd.underlying127
  a52 := Tryd.isAgg127
  z52 := Tryd.sizeOf127
  v52 := Tryd.zeroValue127
  i52 := by kernel_rfl
  t55 := Tryd.underlying130
  a55 := Tryd.isAgg130
  z55 := Tryd.sizeOf130
  v55 := Tryd.zeroValue130
  i55 := by kernel_rfl
  t59 := Tryd.underlying150
  a59 := Tryd.isAgg150
  z59 := Tryd.sizeOf150
  v59 := Tryd.zeroValue150
  i59 := by kernel_rfl
  t60 := Tryd.underlying28
  a60 := Tryd.isAgg28
  z60 := Tryd.sizeOf28
  v60 := Tryd.zeroValue28
  i60 := by kernel_rfl
  t61 := Tryd.underlying151
  a61 := Tryd.isAgg151
  z61 := Tryd.sizeOf151
  t65 := Tryd.underlying170
  a65 := Tryd.isAgg170
  z65 := Tryd.sizeOf170
  v65 := Tryd.zeroValue170
  i65 := by kernel_rfl
  t66 := Tryd.underlying171
  a66 := Tryd.isAgg171
  z66 := Tryd.sizeOf171
  v66 := Tryd.zeroValue171
  i66 := by kernel_rfl
  t67 := Tryd.underlying94
  a67 := Tryd.isAgg94
  z67 := Tryd.sizeOf94
  v67 := Tryd.zeroValue94
  i67 := by kernel_rfl
  g0 := by kernel_rfl
  m0 := by kernel_rfl
  g1 := by kernel_rfl
  m1 := by kernel_rfl
  g2 := by kernel_rfl
  m2 := by kernel_rfl
  g3 := by kernel_rfl
  m3 := by kernel_rfl
  g4 := by kernel_rfl
  m4 := by kernel_rfl }
open Go.RowKit in
theorem Tryd.strconv_ParseUint_10_at0_ok (s : ByteArray) (hmax : s.size ≤ 9223372036854775806) (u : Nat) (h : Lib.parseUintB 64 s.data.toList = .ok u) (w : World) :
    Calls Tryd.prog 70 #[.string s, .int .i64 10, .int .i64 0] w fun e w' => e = .returned (.tuple #[.int .u64 u, .nilIface]) ∧ (w' = w ∨ w' = Lib.bytesWorld w 5 s) := Any.strconv_ParseUint_10_at0_ok Tryd.laysPu14 s hmax u h w
open Go.RowKit in
theorem Tryd.strconv_ParseUint_10_at0_syntax (s : ByteArray) (hlim : s.size ≤ 281474976710656) (h : Lib.parseUintB 64 s.data.toList = Go.Lib.NumEnd.syntax) (ev : Value) (w : World) (hv : w.cell? ⟨2, 0, none⟩ = some ev) (hev : ev = .nilIface ∨ ∃ te pe, ev = .iface te pe) :
    Calls Tryd.prog 70 #[.string s, .int .i64 10, .int .i64 0] w fun e w' => ∃ N, e = .returned (.tuple #[.int .u64 0, .iface 115 (.pointer (some ⟨N, 0, none⟩))]) ∧ w.heap.size ≤ N ∧ w'.heap[N]? = some (.cells #[.string ⟨#[80, 97, 114, 115, 101, 85, 105, 110, 116]⟩, .string s, ev] 139 (0, 0)) ∧ Below w.heap.size w w' := Any.strconv_ParseUint_10_at0_syntax Tryd.laysPu14 s hlim h ev w hv hev
open Go.RowKit in
theorem Tryd.strconv_ParseUint_10_at0_range (s : ByteArray) (hlim : s.size ≤ 281474976710656) (h : Lib.parseUintB 64 s.data.toList = .range) (ev : Value) (w : World) (hv : w.cell? ⟨3, 0, none⟩ = some ev) (hev : ev = .nilIface ∨ ∃ te pe, ev = .iface te pe) :
    Calls Tryd.prog 70 #[.string s, .int .i64 10, .int .i64 0] w fun e w' => ∃ N, e = .returned (.tuple #[.int .u64 18446744073709551615, .iface 115 (.pointer (some ⟨N, 0, none⟩))]) ∧ w.heap.size ≤ N ∧ w'.heap[N]? = some (.cells #[.string ⟨#[80, 97, 114, 115, 101, 85, 105, 110, 116]⟩, .string s, ev] 139 (0, 0)) ∧ Below w.heap.size w w' := Any.strconv_ParseUint_10_at0_range Tryd.laysPu14 s hlim h ev w hv hev
open Go.RowKit in
theorem Tryd.strconv_ParseUint_10_at64_ok (s : ByteArray) (hmax : s.size ≤ 9223372036854775806) (u : Nat) (h : Lib.parseUintB 64 s.data.toList = .ok u) (w : World) :
    Calls Tryd.prog 70 #[.string s, .int .i64 10, .int .i64 64] w fun e w' => e = .returned (.tuple #[.int .u64 u, .nilIface]) ∧ (w' = w ∨ w' = Lib.bytesWorld w 5 s) := Any.strconv_ParseUint_10_at64_ok Tryd.laysPu14 s hmax u h w
open Go.RowKit in
theorem Tryd.strconv_ParseUint_10_at64_syntax (s : ByteArray) (hlim : s.size ≤ 281474976710656) (h : Lib.parseUintB 64 s.data.toList = Go.Lib.NumEnd.syntax) (ev : Value) (w : World) (hv : w.cell? ⟨2, 0, none⟩ = some ev) (hev : ev = .nilIface ∨ ∃ te pe, ev = .iface te pe) :
    Calls Tryd.prog 70 #[.string s, .int .i64 10, .int .i64 64] w fun e w' => ∃ N, e = .returned (.tuple #[.int .u64 0, .iface 115 (.pointer (some ⟨N, 0, none⟩))]) ∧ w.heap.size ≤ N ∧ w'.heap[N]? = some (.cells #[.string ⟨#[80, 97, 114, 115, 101, 85, 105, 110, 116]⟩, .string s, ev] 139 (0, 0)) ∧ Below w.heap.size w w' := Any.strconv_ParseUint_10_at64_syntax Tryd.laysPu14 s hlim h ev w hv hev
open Go.RowKit in
theorem Tryd.strconv_ParseUint_10_at64_range (s : ByteArray) (hlim : s.size ≤ 281474976710656) (h : Lib.parseUintB 64 s.data.toList = .range) (ev : Value) (w : World) (hv : w.cell? ⟨3, 0, none⟩ = some ev) (hev : ev = .nilIface ∨ ∃ te pe, ev = .iface te pe) :
    Calls Tryd.prog 70 #[.string s, .int .i64 10, .int .i64 64] w fun e w' => ∃ N, e = .returned (.tuple #[.int .u64 18446744073709551615, .iface 115 (.pointer (some ⟨N, 0, none⟩))]) ∧ w.heap.size ≤ N ∧ w'.heap[N]? = some (.cells #[.string ⟨#[80, 97, 114, 115, 101, 85, 105, 110, 116]⟩, .string s, ev] 139 (0, 0)) ∧ Below w.heap.size w w' := Any.strconv_ParseUint_10_at64_range Tryd.laysPu14 s hlim h ev w hv hev
open Go.RowKit in
theorem Tryd.strconv_ParseUint_10_at32_ok (s : ByteArray) (hmax : s.size ≤ 9223372036854775806) (u : Nat) (h : Lib.parseUintB 32 s.data.toList = .ok u) (w : World) :
    Calls Tryd.prog 70 #[.string s, .int .i64 10, .int .i64 32] w fun e w' => e = .returned (.tuple #[.int .u64 u, .nilIface]) ∧ (w' = w ∨ w' = Lib.bytesWorld w 5 s) := Any.strconv_ParseUint_10_at32_ok Tryd.laysPu14 s hmax u h w
open Go.RowKit in
theorem Tryd.strconv_ParseUint_10_at32_syntax (s : ByteArray) (hlim : s.size ≤ 281474976710656) (h : Lib.parseUintB 32 s.data.toList = Go.Lib.NumEnd.syntax) (ev : Value) (w : World) (hv : w.cell? ⟨2, 0, none⟩ = some ev) (hev : ev = .nilIface ∨ ∃ te pe, ev = .iface te pe) :
    Calls Tryd.prog 70 #[.string s, .int .i64 10, .int .i64 32] w fun e w' => ∃ N, e = .returned (.tuple #[.int .u64 0, .iface 115 (.pointer (some ⟨N, 0, none⟩))]) ∧ w.heap.size ≤ N ∧ w'.heap[N]? = some (.cells #[.string ⟨#[80, 97, 114, 115, 101, 85, 105, 110, 116]⟩, .string s, ev] 139 (0, 0)) ∧ Below w.heap.size w w' := Any.strconv_ParseUint_10_at32_syntax Tryd.laysPu14 s hlim h ev w hv hev
open Go.RowKit in
theorem Tryd.strconv_ParseUint_10_at32_range (s : ByteArray) (hlim : s.size ≤ 281474976710656) (h : Lib.parseUintB 32 s.data.toList = .range) (ev : Value) (w : World) (hv : w.cell? ⟨3, 0, none⟩ = some ev) (hev : ev = .nilIface ∨ ∃ te pe, ev = .iface te pe) :
    Calls Tryd.prog 70 #[.string s, .int .i64 10, .int .i64 32] w fun e w' => ∃ N, e = .returned (.tuple #[.int .u64 4294967295, .iface 115 (.pointer (some ⟨N, 0, none⟩))]) ∧ w.heap.size ≤ N ∧ w'.heap[N]? = some (.cells #[.string ⟨#[80, 97, 114, 115, 101, 85, 105, 110, 116]⟩, .string s, ev] 139 (0, 0)) ∧ Below w.heap.size w w' := Any.strconv_ParseUint_10_at32_range Tryd.laysPu14 s hlim h ev w hv hev
open Go.RowKit in
theorem Tryd.strconv_ParseUint_10_at16_ok (s : ByteArray) (hmax : s.size ≤ 9223372036854775806) (u : Nat) (h : Lib.parseUintB 16 s.data.toList = .ok u) (w : World) :
    Calls Tryd.prog 70 #[.string s, .int .i64 10, .int .i64 16] w fun e w' => e = .returned (.tuple #[.int .u64 u, .nilIface]) ∧ (w' = w ∨ w' = Lib.bytesWorld w 5 s) := Any.strconv_ParseUint_10_at16_ok Tryd.laysPu14 s hmax u h w
open Go.RowKit in
theorem Tryd.strconv_ParseUint_10_at16_syntax (s : ByteArray) (hlim : s.size ≤ 281474976710656) (h : Lib.parseUintB 16 s.data.toList = Go.Lib.NumEnd.syntax) (ev : Value) (w : World) (hv : w.cell? ⟨2, 0, none⟩ = some ev) (hev : ev = .nilIface ∨ ∃ te pe, ev = .iface te pe) :
    Calls Tryd.prog 70 #[.string s, .int .i64 10, .int .i64 16] w fun e w' => ∃ N, e = .returned (.tuple #[.int .u64 0, .iface 115 (.pointer (some ⟨N, 0, none⟩))]) ∧ w.heap.size ≤ N ∧ w'.heap[N]? = some (.cells #[.string ⟨#[80, 97, 114, 115, 101, 85, 105, 110, 116]⟩, .string s, ev] 139 (0, 0)) ∧ Below w.heap.size w w' := Any.strconv_ParseUint_10_at16_syntax Tryd.laysPu14 s hlim h ev w hv hev
open Go.RowKit in
theorem Tryd.strconv_ParseUint_10_at16_range (s : ByteArray) (hlim : s.size ≤ 281474976710656) (h : Lib.parseUintB 16 s.data.toList = .range) (ev : Value) (w : World) (hv : w.cell? ⟨3, 0, none⟩ = some ev) (hev : ev = .nilIface ∨ ∃ te pe, ev = .iface te pe) :
    Calls Tryd.prog 70 #[.string s, .int .i64 10, .int .i64 16] w fun e w' => ∃ N, e = .returned (.tuple #[.int .u64 65535, .iface 115 (.pointer (some ⟨N, 0, none⟩))]) ∧ w.heap.size ≤ N ∧ w'.heap[N]? = some (.cells #[.string ⟨#[80, 97, 114, 115, 101, 85, 105, 110, 116]⟩, .string s, ev] 139 (0, 0)) ∧ Below w.heap.size w w' := Any.strconv_ParseUint_10_at16_range Tryd.laysPu14 s hlim h ev w hv hev
open Go.RowKit in
theorem Tryd.strconv_ParseUint_10_at8_ok (s : ByteArray) (hmax : s.size ≤ 9223372036854775806) (u : Nat) (h : Lib.parseUintB 8 s.data.toList = .ok u) (w : World) :
    Calls Tryd.prog 70 #[.string s, .int .i64 10, .int .i64 8] w fun e w' => e = .returned (.tuple #[.int .u64 u, .nilIface]) ∧ (w' = w ∨ w' = Lib.bytesWorld w 5 s) := Any.strconv_ParseUint_10_at8_ok Tryd.laysPu14 s hmax u h w
open Go.RowKit in
theorem Tryd.strconv_ParseUint_10_at8_syntax (s : ByteArray) (hlim : s.size ≤ 281474976710656) (h : Lib.parseUintB 8 s.data.toList = Go.Lib.NumEnd.syntax) (ev : Value) (w : World) (hv : w.cell? ⟨2, 0, none⟩ = some ev) (hev : ev = .nilIface ∨ ∃ te pe, ev = .iface te pe) :
    Calls Tryd.prog 70 #[.string s, .int .i64 10, .int .i64 8] w fun e w' => ∃ N, e = .returned (.tuple #[.int .u64 0, .iface 115 (.pointer (some ⟨N, 0, none⟩))]) ∧ w.heap.size ≤ N ∧ w'.heap[N]? = some (.cells #[.string ⟨#[80, 97, 114, 115, 101, 85, 105, 110, 116]⟩, .string s, ev] 139 (0, 0)) ∧ Below w.heap.size w w' := Any.strconv_ParseUint_10_at8_syntax Tryd.laysPu14 s hlim h ev w hv hev
open Go.RowKit in
theorem Tryd.strconv_ParseUint_10_at8_range (s : ByteArray) (hlim : s.size ≤ 281474976710656) (h : Lib.parseUintB 8 s.data.toList = .range) (ev : Value) (w : World) (hv : w.cell? ⟨3, 0, none⟩ = some ev) (hev : ev = .nilIface ∨ ∃ te pe, ev = .iface te pe) :
    Calls Tryd.prog 70 #[.string s, .int .i64 10, .int .i64 8] w fun e w' => ∃ N, e = .returned (.tuple #[.int .u64 255, .iface 115 (.pointer (some ⟨N, 0, none⟩))]) ∧ w.heap.size ≤ N ∧ w'.heap[N]? = some (.cells #[.string ⟨#[80, 97, 114, 115, 101, 85, 105, 110, 116]⟩, .string s, ev] 139 (0, 0)) ∧ Below w.heap.size w w' := Any.strconv_ParseUint_10_at8_range Tryd.laysPu14 s hlim h ev w hv hev
open Go.RowKit in
theorem Tryd.strconv_ParseUint_10_at0_syntax_var (s : ByteArray) (hlim : s.size ≤ 281474976710656) (h : Lib.parseUintB 64 s.data.toList = Go.Lib.NumEnd.syntax) (tp : TypeId) (p : Value) (w : World) (hvar : w.var? Tryd.prog "strconv.ErrSyntax" = some #[.iface tp p]) :
    Calls Tryd.prog 70 #[.string s, .int .i64 10, .int .i64 0] w fun e w' => ∃ N, e = .returned (.tuple #[.int .u64 0, .iface 115 (.pointer (some ⟨N, 0, none⟩))]) ∧ w.heap.size ≤ N ∧ w'.heap[N]? = some (.cells #[.string ⟨#[80, 97, 114, 115, 101, 85, 105, 110, 116]⟩, .string s, .iface tp p] 139 (0, 0)) ∧ Below w.heap.size w w' := Any.strconv_ParseUint_10_at0_syntax_var Tryd.laysPu14 s hlim h tp p w hvar
open Go.RowKit in
theorem Tryd.strconv_ParseUint_10_at0_range_var (s : ByteArray) (hlim : s.size ≤ 281474976710656) (h : Lib.parseUintB 64 s.data.toList = .range) (tp : TypeId) (p : Value) (w : World) (hvar : w.var? Tryd.prog "strconv.ErrRange" = some #[.iface tp p]) :
    Calls Tryd.prog 70 #[.string s, .int .i64 10, .int .i64 0] w fun e w' => ∃ N, e = .returned (.tuple #[.int .u64 18446744073709551615, .iface 115 (.pointer (some ⟨N, 0, none⟩))]) ∧ w.heap.size ≤ N ∧ w'.heap[N]? = some (.cells #[.string ⟨#[80, 97, 114, 115, 101, 85, 105, 110, 116]⟩, .string s, .iface tp p] 139 (0, 0)) ∧ Below w.heap.size w w' := Any.strconv_ParseUint_10_at0_range_var Tryd.laysPu14 s hlim h tp p w hvar
open Go.RowKit in
theorem Tryd.strconv_ParseUint_10_at64_syntax_var (s : ByteArray) (hlim : s.size ≤ 281474976710656) (h : Lib.parseUintB 64 s.data.toList = Go.Lib.NumEnd.syntax) (tp : TypeId) (p : Value) (w : World) (hvar : w.var? Tryd.prog "strconv.ErrSyntax" = some #[.iface tp p]) :
    Calls Tryd.prog 70 #[.string s, .int .i64 10, .int .i64 64] w fun e w' => ∃ N, e = .returned (.tuple #[.int .u64 0, .iface 115 (.pointer (some ⟨N, 0, none⟩))]) ∧ w.heap.size ≤ N ∧ w'.heap[N]? = some (.cells #[.string ⟨#[80, 97, 114, 115, 101, 85, 105, 110, 116]⟩, .string s, .iface tp p] 139 (0, 0)) ∧ Below w.heap.size w w' := Any.strconv_ParseUint_10_at64_syntax_var Tryd.laysPu14 s hlim h tp p w hvar
open Go.RowKit in
theorem Tryd.strconv_ParseUint_10_at64_range_var (s : ByteArray) (hlim : s.size ≤ 281474976710656) (h : Lib.parseUintB 64 s.data.toList = .range) (tp : TypeId) (p : Value) (w : World) (hvar : w.var? Tryd.prog "strconv.ErrRange" = some #[.iface tp p]) :
    Calls Tryd.prog 70 #[.string s, .int .i64 10, .int .i64 64] w fun e w' => ∃ N, e = .returned (.tuple #[.int .u64 18446744073709551615, .iface 115 (.pointer (some ⟨N, 0, none⟩))]) ∧ w.heap.size ≤ N ∧ w'.heap[N]? = some (.cells #[.string ⟨#[80, 97, 114, 115, 101, 85, 105, 110, 116]⟩, .string s, .iface tp p] 139 (0, 0)) ∧ Below w.heap.size w w' := Any.strconv_ParseUint_10_at64_range_var Tryd.laysPu14 s hlim h tp p w hvar
open Go.RowKit in
theorem Tryd.strconv_ParseUint_10_at32_syntax_var (s : ByteArray) (hlim : s.size ≤ 281474976710656) (h : Lib.parseUintB 32 s.data.toList = Go.Lib.NumEnd.syntax) (tp : TypeId) (p : Value) (w : World) (hvar : w.var? Tryd.prog "strconv.ErrSyntax" = some #[.iface tp p]) :
    Calls Tryd.prog 70 #[.string s, .int .i64 10, .int .i64 32] w fun e w' => ∃ N, e = .returned (.tuple #[.int .u64 0, .iface 115 (.pointer (some ⟨N, 0, none⟩))]) ∧ w.heap.size ≤ N ∧ w'.heap[N]? = some (.cells #[.string ⟨#[80, 97, 114, 115, 101, 85, 105, 110, 116]⟩, .string s, .iface tp p] 139 (0, 0)) ∧ Below w.heap.size w w' := Any.strconv_ParseUint_10_at32_syntax_var Tryd.laysPu14 s hlim h tp p w hvar
open Go.RowKit in
theorem Tryd.strconv_ParseUint_10_at32_range_var (s : ByteArray) (hlim : s.size ≤ 281474976710656) (h : Lib.parseUintB 32 s.data.toList = .range) (tp : TypeId) (p : Value) (w : World) (hvar : w.var? Tryd.prog "strconv.ErrRange" = some #[.iface tp p]) :
    Calls Tryd.prog 70 #[.string s, .int .i64 10, .int .i64 32] w fun e w' => ∃ N, e = .returned (.tuple #[.int .u64 4294967295, .iface 115 (.pointer (some ⟨N, 0, none⟩))]) ∧ w.heap.size ≤ N ∧ w'.heap[N]? = some (.cells #[.string ⟨#[80, 97, 114, 115, 101, 85, 105, 110, 116]⟩, .string s, .iface tp p] 139 (0, 0)) ∧ Below w.heap.size w w' := Any.strconv_ParseUint_10_at32_range_var Tryd.laysPu14 s hlim h tp p w hvar
open Go.RowKit in
theorem Tryd.strconv_ParseUint_10_at16_syntax_var (s : ByteArray) (hlim : s.size ≤ 281474976710656) (h : Lib.parseUintB 16 s.data.toList = Go.Lib.NumEnd.syntax) (tp : TypeId) (p : Value) (w : World) (hvar : w.var? Tryd.prog "strconv.ErrSyntax" = some #[.iface tp p]) :
    Calls Tryd.prog 70 #[.string s, .int .i64 10, .int .i64 16] w fun e w' => ∃ N, e = .returned (.tuple #[.int .u64 0, .iface 115 (.pointer (some ⟨N, 0, none⟩))]) ∧ w.heap.size ≤ N ∧ w'.heap[N]? = some (.cells #[.string ⟨#[80, 97, 114, 115, 101, 85, 105, 110, 116]⟩, .string s, .iface tp p] 139 (0, 0)) ∧ Below w.heap.size w w' := Any.strconv_ParseUint_10_at16_syntax_var Tryd.laysPu14 s hlim h tp p w hvar
open Go.RowKit in
theorem Tryd.strconv_ParseUint_10_at16_range_var (s : ByteArray) (hlim : s.size ≤ 281474976710656) (h : Lib.parseUintB 16 s.data.toList = .range) (tp : TypeId) (p : Value) (w : World) (hvar : w.var? Tryd.prog "strconv.ErrRange" = some #[.iface tp p]) :
    Calls Tryd.prog 70 #[.string s, .int .i64 10, .int .i64 16] w fun e w' => ∃ N, e = .returned (.tuple #[.int .u64 65535, .iface 115 (.pointer (some ⟨N, 0, none⟩))]) ∧ w.heap.size ≤ N ∧ w'.heap[N]? = some (.cells #[.string ⟨#[80, 97, 114, 115, 101, 85, 105, 110, 116]⟩, .string s, .iface tp p] 139 (0, 0)) ∧ Below w.heap.size w w' := Any.strconv_ParseUint_10_at16_range_var Tryd.laysPu14 s hlim h tp p w hvar
open Go.RowKit in
theorem Tryd.strconv_ParseUint_10_at8_syntax_var (s : ByteArray) (hlim : s.size ≤ 281474976710656) (h : Lib.parseUintB 8 s.data.toList = Go.Lib.NumEnd.syntax) (tp : TypeId) (p : Value) (w : World) (hvar : w.var? Tryd.prog "strconv.ErrSyntax" = some #[.iface tp p]) :
    Calls Tryd.prog 70 #[.string s, .int .i64 10, .int .i64 8] w fun e w' => ∃ N, e = .returned (.tuple #[.int .u64 0, .iface 115 (.pointer (some ⟨N, 0, none⟩))]) ∧ w.heap.size ≤ N ∧ w'.heap[N]? = some (.cells #[.string ⟨#[80, 97, 114, 115, 101, 85, 105, 110, 116]⟩, .string s, .iface tp p] 139 (0, 0)) ∧ Below w.heap.size w w' := Any.strconv_ParseUint_10_at8_syntax_var Tryd.laysPu14 s hlim h tp p w hvar
open Go.RowKit in
theorem Tryd.strconv_ParseUint_10_at8_range_var (s : ByteArray) (hlim : s.size ≤ 281474976710656) (h : Lib.parseUintB 8 s.data.toList = .range) (tp : TypeId) (p : Value) (w : World) (hvar : w.var? Tryd.prog "strconv.ErrRange" = some #[.iface tp p]) :
    Calls Tryd.prog 70 #[.string s, .int .i64 10, .int .i64 8] w fun e w' => ∃ N, e = .returned (.tuple #[.int .u64 255, .iface 115 (.pointer (some ⟨N, 0, none⟩))]) ∧ w.heap.size ≤ N ∧ w'.heap[N]? = some (.cells #[.string ⟨#[80, 97, 114, 115, 101, 85, 105, 110, 116]⟩, .string s, .iface tp p] 139 (0, 0)) ∧ Below w.heap.size w w' := Any.strconv_ParseUint_10_at8_range_var Tryd.laysPu14 s hlim h tp p w hvar
def Tryd.lays217_ren : Go.Shelf.Ren := ⟨fun | 217 => 99 | 266 => 119 | n => n, fun | 9 => 9 | 5 => 5 | 3 => 3 | n => n, fun | n => n⟩
theorem Tryd.lays217 : Go.Proofs.Lays.n217 Tryd.prog Tryd.lays217_ren := {
  mixed := by kernel_rfl
  f217 := Tryd.func99.trans (congrArg some (by kernel_rfl))
  f266 := Tryd.func119.trans (congrArg some (by kernel_rfl))
  t3 := Tryd.underlying3
  a3 := Tryd.isAgg3
  z3 := Tryd.sizeOf3
  v3 := Tryd.zeroValue3
  t5 := Tryd.underlying5
  a5 := Tryd.isAgg5
  z5 := Tryd.sizeOf5
  v5 := Tryd.zeroValue5
  t9 := Tryd.underlying9
  a9 := Tryd.isAgg9
  z9 := Tryd.sizeOf9
  v9 := Tryd.zeroValue9 }
open Go.RowKit Go.Lib in
theorem Tryd.stringslite_IndexByte (s : ByteArray) (c : Int) (w : World) :
    Calls Tryd.prog 99 #[.string s, .int .u8 c] w fun e w' => e = .returned (.int .i64 (Lib.indexByte s.data.toList c.toNat.toUInt8)) ∧ w' = w := Any.stringslite_IndexByte Tryd.lays217 s c w
def Tryd.lays224_ren : Go.Shelf.Ren := ⟨fun | 224 => 101 | n => n, fun | 3 => 3 | n => n, fun | n => n⟩
theorem Tryd.lays224 : Go.Proofs.Lays.n224 Tryd.prog Tryd.lays224_ren := {
  mixed := by kernel_rfl
  f224 := Tryd.func101.trans (congrArg some (by kernel_rfl))
  t3 := Tryd.underlying3
  a3 := Tryd.isAgg3
  z3 := Tryd.sizeOf3
  v3 := Tryd.zeroValue3 }
open Go.RowKit Go.Lib in
theorem Tryd.bytealg_Cutover (n : Int) (h0 : 0 ≤ n) (h1 : n < 4611686018427387904) (w : World) :
    Calls Tryd.prog 101 #[.int .i64 n] w fun e w' => e = .returned (.int .i64 ((n + 16) / 8)) ∧ w' = w := Any.bytealg_Cutover Tryd.lays224 n h0 h1 w
def Tryd.lays314_ren : Go.Shelf.Ren := ⟨fun | 314 => 120 | n => n, fun | 9 => 9 | 51 => 28 | 3 => 3 | 4 => 4 | 5 => 5 | 46 => 62 | n => n, fun | n => n⟩
theorem Tryd.lays314 : Go.Proofs.Lays.n314 Tryd.prog Tryd.lays314_ren := {
  mixed := by kernel_rfl
  f314 := Tryd.func120.trans (congrArg some (by kernel_rfl))
  t3 := Tryd.underlying3
  a3 := Tryd.isAgg3
  z3 := Tryd.sizeOf3
  v3 := Tryd.zeroValue3
  t4 := Tryd.underlying4
  a4 := Tryd.isAgg4
  z4 := Tryd.sizeOf4
  v4 := Tryd.zeroValue4
  t5 := Tryd.underlying5
  a5 := Tryd.isAgg5
  z5 := Tryd.sizeOf5
  v5 := Tryd.zeroValue5
  t9 := Tryd.underlying9
  a9 := Tryd.isAgg9
  z9 := Tryd.sizeOf9
  v9 := Tryd.zeroValue9
  t46 := Tryd.underlying62
  a46 := Tryd.isAgg62
  z46 := Tryd.sizeOf62
  v46 := Tryd.zeroValue62
  t51 := Tryd.underlying28
  a51 := Tryd.isAgg28
  z51 := Tryd.sizeOf28
  v51 := Tryd.zeroValue28 }
open Go.RowKit Go.Lib in
theorem Tryd.bytealg_hashStr (sep : ByteArray) (hs : sep.size < 4294967281) (w : World) :
    Calls Tryd.prog 120 #[.string sep] w fun e w' => e = .returned (.tuple #[.int .u32 (RK.H sep.data.toList % 4294967296), .int .u32 (16777619 ^ sep.size % 4294967296)]) ∧ w' = w := Any.bytealg_hashStr Tryd.lays314 sep hs w
def Tryd.lays267_ren : Go.Shelf.Ren := ⟨fun | 267 => 102 | 314 => 120 | n => n, fun | 9 => 9 | 3 => 3 | 146 => 154 | 51 => 28 | 4 => 4 | 5 => 5 | 46 => 62 | n => n, fun | n => n⟩
theorem Tryd.lays267 : Go.Proofs.Lays.n267 Tryd.prog Tryd.lays267_ren := {
  mixed := by kernel_rfl
  f267 := Tryd.func102.trans (congrArg some (by kernel_rfl))
  f314 := Tryd.func120.trans (congrArg some (by kernel_rfl))
  t3 := Tryd.underlying3
  a3 := Tryd.isAgg3
  z3 := Tryd.sizeOf3
  v3 := Tryd.zeroValue3
  t4 := Tryd.underlying4
  a4 := Tryd.isAgg4
  z4 := Tryd.sizeOf4
  v4 := Tryd.zeroValue4
  t5 := Tryd.underlying5
  a5 := Tryd.isAgg5
  z5 := Tryd.sizeOf5
  v5 := Tryd.zeroValue5
  t9 := Tryd.underlying9
  a9 := Tryd.isAgg9
  z9 := Tryd.sizeOf9
  v9 := Tryd.zeroValue9
  t46 := Tryd.underlying62
  a46 := Tryd.isAgg62
  z46 := Tryd.sizeOf62
  v46 := Tryd.zeroValue62
  t51 := Tryd.underlying28
  a51 := Tryd.isAgg28
  z51 := Tryd.sizeOf28
  v51 := Tryd.zeroValue28
  t146 := Tryd.underlying154
  a146 := Tryd.isAgg154
  z146 := Tryd.sizeOf154
  v146 := Tryd.zeroValue154 }
open Go.RowKit Go.Lib in
theorem Tryd.bytealg_IndexRabinKarp (s sep : ByteArray) (h1 : 1 ≤ sep.size) (h2 : sep.size ≤ s.size) (hs : s.size < 4294967281) (w : World) :
    Calls Tryd.prog 102 #[.string s, .string sep] w fun e w' => e = .returned (.int .i64 (Lib.index s.data.toList sep.data.toList)) ∧ w' = w := Any.bytealg_IndexRabinKarp Tryd.lays267 s sep h1 h2 hs w
def Tryd.lays219_ren : Go.Shelf.Ren := ⟨fun | 219 => 74 | 217 => 99 | 225 => 100 | 224 => 101 | 267 => 102 | 266 => 119 | 314 => 120 | n => n, fun | 9 => 9 | 3 => 3 | 4 => 4 | 5 => 5 | 46 => 62 | 146 => 154 | 51 => 28 | n => n, fun | 1 => 1 | n => n⟩
theorem Tryd.lays219 : Go.Proofs.Lays.n219 Tryd.prog Tryd.lays219_ren := {
  mixed := by kernel_rfl
  f217 := Tryd.func99.trans (congrArg some (by kernel_rfl))
  f219 := Tryd.func74.trans (congrArg some (by kernel_rfl))
  f224 := Tryd.func101.trans (congrArg some (by kernel_rfl))
  f225 := Tryd.func100.trans (congrArg some (by kernel_rfl))
  f266 := Tryd.func119.trans (congrArg some (by kernel_rfl))
  f267 := Tryd.func102.trans (congrArg some (by kernel_rfl))
  f314 := Tryd.func120.trans (congrArg some (by kernel_rfl))
  t3 := Tryd.underlying3
  a3 := Tryd.isAgg3
  z3 := Tryd.sizeOf3
  v3 := Tryd.zeroValue3
  t4 := Tryd.underlying4
  a4 := Tryd.isAgg4
  z4 := Tryd.sizeOf4
  v4 := Tryd.zeroValue4
  t5 := Tryd.underlying5
  a5 := Tryd.isAgg5
  z5 := Tryd.sizeOf5
  v5 := Tryd.zeroValue5
  t9 := Tryd.underlying9
  a9 := Tryd.isAgg9
  z9 := Tryd.sizeOf9
  v9 := Tryd.zeroValue9
  t46 := Tryd.underlying62
  a46 := Tryd.isAgg62
  z46 := Tryd.sizeOf62
  v46 := Tryd.zeroValue62
  t51 := Tryd.underlying28
  a51 := Tryd.isAgg28
  z51 := Tryd.sizeOf28
  v51 := Tryd.zeroValue28
  t146 := Tryd.underlying154
  a146 := Tryd.isAgg154
  z146 := Tryd.sizeOf154
  v146 := Tryd.zeroValue154
  g1 := by kernel_rfl }
open Go.RowKit Go.Lib in
theorem Tryd.stringslite_Index_one (s : ByteArray) (c : UInt8) (w : World) :
    Calls Tryd.prog 74 #[.string s, .string ⟨#[c]⟩] w fun e w' => e = .returned (.int .i64 (Lib.indexByte s.data.toList c)) ∧ w' = w := Any.stringslite_Index_one Tryd.lays219 s c w
open Go.RowKit Go.Lib in
theorem Tryd.stringslite_Index (s sub : ByteArray) (m : Int) (w : World) (hs : s.size < 4294967281) (hm : w.cell? ⟨1, 0, none⟩ = some (.int .i64 m)) :
    Calls Tryd.prog 74 #[.string s, .string sub] w fun e w' => e = .returned (.int .i64 (Lib.index s.data.toList sub.data.toList)) ∧ w' = w := Any.stringslite_Index Tryd.lays219 s sub m w hs hm
def Tryd.lays143_ren : Go.Shelf.Ren := ⟨fun | 143 => 82 | 219 => 74 | 217 => 99 | 225 => 100 | 224 => 101 | 267 => 102 | 266 => 119 | 314 => 120 | n => n, fun | 9 => 9 | 3 => 3 | 4 => 4 | 5 => 5 | 46 => 62 | 146 => 154 | 51 => 28 | n => n, fun | 1 => 1 | n => n⟩
theorem Tryd.lays143 : Go.Proofs.Lays.n143 Tryd.prog Tryd.lays143_ren := {
  mixed := by kernel_rfl
  f143 := Tryd.func82.trans (congrArg some (by kernel_rfl))
  f217 := Tryd.func99.trans (congrArg some (by kernel_rfl))
  f219 := Tryd.func74.trans (congrArg some (by kernel_rfl))
  f224 := Tryd.func101.trans (congrArg some (by kernel_rfl))
  f225 := Tryd.func100.trans (congrArg some (by kernel_rfl))
  f266 := Tryd.func119.trans (congrArg some (by kernel_rfl))
  f267 := Tryd.func102.trans (congrArg some (by kernel_rfl))
  f314 := Tryd.func120.trans (congrArg some (by kernel_rfl))
  t3 := Tryd.underlying3
  a3 := Tryd.isAgg3
  z3 := Tryd.sizeOf3
  v3 := Tryd.zeroValue3
  t4 := Tryd.underlying4
  a4 := Tryd.isAgg4
  z4 := Tryd.sizeOf4
  v4 := Tryd.zeroValue4
  t5 := Tryd.underlying5
  a5 := Tryd.isAgg5
  z5 := Tryd.sizeOf5
  v5 := Tryd.zeroValue5
  t9 := Tryd.underlying9
  a9 := Tryd.isAgg9
  z9 := Tryd.sizeOf9
  v9 := Tryd.zeroValue9
  t46 := Tryd.underlying62
  a46 := Tryd.isAgg62
  z46 := Tryd.sizeOf62
  v46 := Tryd.zeroValue62
  t51 := Tryd.underlying28
  a51 := Tryd.isAgg28
  z51 := Tryd.sizeOf28
  v51 := Tryd.zeroValue28
  t146 := Tryd.underlying154
  a146 := Tryd.isAgg154
  z146 := Tryd.sizeOf154
  v146 := Tryd.zeroValue154
  g1 := by kernel_rfl }
open Go.RowKit Go.Lib in
theorem Tryd.strings_Index_one (s : ByteArray) (c : UInt8) (w : World) :
    Calls Tryd.prog 82 #[.string s, .string ⟨#[c]⟩] w fun e w' => e = .returned (.int .i64 (Lib.indexByte s.data.toList c)) ∧ w' = w := Any.strings_Index_one Tryd.lays143 s c w
open Go.RowKit Go.Lib in
theorem Tryd.strings_Index (s sub : ByteArray) (m : Int) (w : World) (hs : s.size < 4294967281) (hm : w.cell? ⟨1, 0, none⟩ = some (.int .i64 m)) :
    Calls Tryd.prog 82 #[.string s, .string sub] w fun e w' => e = .returned (.int .i64 (Lib.index s.data.toList sub.data.toList)) ∧ w' = w := Any.strings_Index Tryd.lays143 s sub m w hs hm
def Tryd.lays220_ren : Go.Shelf.Ren := ⟨fun | 220 => 59 | 219 => 74 | 217 => 99 | 225 => 100 | 224 => 101 | 267 => 102 | 266 => 119 | 314 => 120 | n => n, fun | 9 => 9 | 4 => 4 | 3 => 3 | 5 => 5 | 46 => 62 | 146 => 154 | 51 => 28 | n => n, fun | 1 => 1 | n => n⟩
theorem Tryd.lays220 : Go.Proofs.Lays.n220 Tryd.prog Tryd.lays220_ren := {
  mixed := by kernel_rfl
  f217 := Tryd.func99.trans (congrArg some (by kernel_rfl))
  f219 := Tryd.func74.trans (congrArg some (by kernel_rfl))
  f220 := Tryd.func59.trans (congrArg some (by kernel_rfl))
  f224 := Tryd.func101.trans (congrArg some (by kernel_rfl))
  f225 := Tryd.func100.trans (congrArg some (by kernel_rfl))
  f266 := Tryd.func119.trans (congrArg some (by kernel_rfl))
  f267 := Tryd.func102.trans (congrArg some (by kernel_rfl))
  f314 := Tryd.func120.trans (congrArg some (by kernel_rfl))
  t3 := Tryd.underlying3
  a3 := Tryd.isAgg3
  z3 := Tryd.sizeOf3
  v3 := Tryd.zeroValue3
  t4 := Tryd.underlying4
  a4 := Tryd.isAgg4
  z4 := Tryd.sizeOf4
  v4 := Tryd.zeroValue4
  t5 := Tryd.underlying5
  a5 := Tryd.isAgg5
  z5 := Tryd.sizeOf5
  v5 := Tryd.zeroValue5
  t9 := Tryd.underlying9
  a9 := Tryd.isAgg9
  z9 := Tryd.sizeOf9
  v9 := Tryd.zeroValue9
  t46 := Tryd.underlying62
  a46 := Tryd.isAgg62
  z46 := Tryd.sizeOf62
  v46 := Tryd.zeroValue62
  t51 := Tryd.underlying28
  a51 := Tryd.isAgg28
  z51 := Tryd.sizeOf28
  v51 := Tryd.zeroValue28
  t146 := Tryd.underlying154
  a146 := Tryd.isAgg154
  z146 := Tryd.sizeOf154
  v146 := Tryd.zeroValue154
  g1 := by kernel_rfl }
open Go.RowKit Go.Lib in
theorem Tryd.stringslite_Cut (s sep : ByteArray) (m : Int) (w : World) (hs : s.size < 4294967281) (hm : w.cell? ⟨1, 0, none⟩ = some (.int .i64 m)) :
    Calls Tryd.prog 59 #[.string s, .string sep] w fun e w' => e = .returned (.tuple #[.string ⟨(Lib.cut s.data.toList sep.data.toList).1.toArray⟩, .string ⟨(Lib.cut s.data.toList sep.data.toList).2.1.toArray⟩, .bool (Lib.cut s.data.toList sep.data.toList).2.2]) ∧ ∃ n, w' = w.drewN n := Any.stringslite_Cut Tryd.lays220 s sep m w hs hm
def Tryd.lays145_ren : Go.Shelf.Ren := ⟨fun | 145 => 41 | 220 => 59 | 219 => 74 | 217 => 99 | 225 => 100 | 224 => 101 | 267 => 102 | 266 => 119 | 314 => 120 | n => n, fun | 9 => 9 | 4 => 4 | 59 => 70 | 3 => 3 | 5 => 5 | 46 => 62 | 146 => 154 | 51 => 28 | n => n, fun | 1 => 1 | n => n⟩
theorem Tryd.lays145 : Go.Proofs.Lays.n145 Tryd.prog Tryd.lays145_ren := {
  mixed := by kernel_rfl
  f145 := Tryd.func41.trans (congrArg some (by kernel_rfl))
  f217 := Tryd.func99.trans (congrArg some (by kernel_rfl))
  f219 := Tryd.func74.trans (congrArg some (by kernel_rfl))
  f220 := Tryd.func59.trans (congrArg some (by kernel_rfl))
  f224 := Tryd.func101.trans (congrArg some (by kernel_rfl))
  f225 := Tryd.func100.trans (congrArg some (by kernel_rfl))
  f266 := Tryd.func119.trans (congrArg some (by kernel_rfl))
  f267 := Tryd.func102.trans (congrArg some (by kernel_rfl))
  f314 := Tryd.func120.trans (congrArg some (by kernel_rfl))
  t3 := Tryd.underlying3
  a3 := Tryd.isAgg3
  z3 := Tryd.sizeOf3
  v3 := Tryd.zeroValue3
  t4 := Tryd.underlying4
  a4 := Tryd.isAgg4
  z4 := Tryd.sizeOf4
  v4 := Tryd.zeroValue4
  t5 := Tryd.underlying5
  a5 := Tryd.isAgg5
  z5 := Tryd.sizeOf5
  v5 := Tryd.zeroValue5
  t9 := Tryd.underlying9
  a9 := Tryd.isAgg9
  z9 := Tryd.sizeOf9
  v9 := Tryd.zeroValue9
  t46 := Tryd.underlying62
  a46 := Tryd.isAgg62
  z46 := Tryd.sizeOf62
  v46 := Tryd.zeroValue62
  t51 := Tryd.underlying28
  a51 := Tryd.isAgg28
  z51 := Tryd.sizeOf28
  v51 := Tryd.zeroValue28
  t59 := Tryd.underlying70
  a59 := Tryd.isAgg70
  z59 := Tryd.sizeOf70
  v59 := Tryd.zeroValue70
  t146 := Tryd.underlying154
  a146 := Tryd.isAgg154
  z146 := Tryd.sizeOf154
  v146 := Tryd.zeroValue154
  g1 := by kernel_rfl }
open Go.RowKit Go.Lib in
theorem Tryd.strings_Cut (s sep : ByteArray) (m : Int) (w : World) (hs : s.size < 4294967281) (hm : w.cell? ⟨1, 0, none⟩ = some (.int .i64 m)) :
    Calls Tryd.prog 41 #[.string s, .string sep] w fun e w' => e = .returned (.tuple #[.string ⟨(Lib.cut s.data.toList sep.data.toList).1.toArray⟩, .string ⟨(Lib.cut s.data.toList sep.data.toList).2.1.toArray⟩, .bool (Lib.cut s.data.toList sep.data.toList).2.2]) ∧ ∃ n, w' = w.drewN n := Any.strings_Cut Tryd.lays145 s sep m w hs hm
def Tryd.lays138_ren : Go.Shelf.Ren := ⟨fun | 138 => 81 | 195 => 105 | 218 => 107 | 143 => 82 | 219 => 74 | 217 => 99 | 225 => 100 | 224 => 101 | 267 => 102 | 266 => 119 | 314 => 120 | n => n, fun | 9 => 9 | 3 => 3 | 4 => 4 | 5 => 5 | 0 => 0 | 46 => 62 | 146 => 154 | 51 => 28 | n => n, fun | 1 => 1 | n => n⟩
theorem Tryd.lays138 : Go.Proofs.Lays.n138 Tryd.prog Tryd.lays138_ren := {
  mixed := by kernel_rfl
  f138 := Tryd.func81.trans (congrArg some (by kernel_rfl))
  f143 := Tryd.func82.trans (congrArg some (by kernel_rfl))
  f195 := Tryd.func105.trans (congrArg some (by kernel_rfl))
  f217 := Tryd.func99.trans (congrArg some (by kernel_rfl))
  f218 := Tryd.func107.trans (congrArg some (by kernel_rfl))
  f219 := Tryd.func74.trans (congrArg some (by kernel_rfl))
  f224 := Tryd.func101.trans (congrArg some (by kernel_rfl))
  f225 := Tryd.func100.trans (congrArg some (by kernel_rfl))
  f266 := Tryd.func119.trans (congrArg some (by kernel_rfl))
  f267 := Tryd.func102.trans (congrArg some (by kernel_rfl))
  f314 := Tryd.func120.trans (congrArg some (by kernel_rfl))
  t0 := Tryd.underlying0
  a0 := Tryd.isAgg0
  z0 := Tryd.sizeOf0
  v0 := Tryd.zeroValue0
  t3 := Tryd.underlying3
  a3 := Tryd.isAgg3
  z3 := Tryd.sizeOf3
  v3 := Tryd.zeroValue3
  t4 := Tryd.underlying4
  a4 := Tryd.isAgg4
  z4 := Tryd.sizeOf4
  v4 := Tryd.zeroValue4
  t5 := Tryd.underlying5
  a5 := Tryd.isAgg5
  z5 := Tryd.sizeOf5
  v5 := Tryd.zeroValue5
  t9 := Tryd.underlying9
  a9 := Tryd.isAgg9
  z9 := Tryd.sizeOf9
  v9 := Tryd.zeroValue9
  t46 := Tryd.underlying62
  a46 := Tryd.isAgg62
  z46 := Tryd.sizeOf62
  v46 := Tryd.zeroValue62
  t51 := Tryd.underlying28
  a51 := Tryd.isAgg28
  z51 := Tryd.sizeOf28
  v51 := Tryd.zeroValue28
  t146 := Tryd.underlying154
  a146 := Tryd.isAgg154
  z146 := Tryd.sizeOf154
  v146 := Tryd.zeroValue154
  g1 := by kernel_rfl }
open Go.RowKit Go.Lib in
theorem Tryd.strings_Count_one (s : ByteArray) (c : UInt8) (w : World) :
    Calls Tryd.prog 81 #[.string s, .string ⟨#[c]⟩] w fun e w' => e = .returned (.int .i64 (Lib.countByte s.data.toList c)) ∧ w' = w := Any.strings_Count_one Tryd.lays138 s c w
open Go.RowKit Go.Lib in
theorem Tryd.strings_Count (s sub : ByteArray) (m : Int) (w : World) (hs : s.size < 4294967281) (hm : w.cell? ⟨1, 0, none⟩ = some (.int .i64 m)) (h2 : 2 ≤ sub.size) :
    Calls Tryd.prog 81 #[.string s, .string sub] w fun e w' => e = .returned (.int .i64 (Lib.countB s sub)) ∧ w' = w := Any.strings_Count Tryd.lays138 s sub m w hs hm h2
open Go.RowKit Go.Lib in
theorem Tryd.strings_Count_any (s sep : ByteArray) (m : Int) (w : World) (hs : s.size < 4294967281) (hm : w.cell? ⟨1, 0, none⟩ = some (.int .i64 m)) (h1 : 1 ≤ sep.size) :
    Calls Tryd.prog 81 #[.string s, .string sep] w fun e w' => e = .returned (.int .i64 (Lib.countB s sep)) ∧ w' = w := Any.strings_Count_any Tryd.lays138 s sep m w hs hm h1
def Tryd.lays221_ren : Go.Shelf.Ren := ⟨fun | 221 => 62 | 268 => 80 | 138 => 81 | 143 => 82 | 195 => 105 | 197 => 106 | 218 => 107 | 219 => 74 | 260 => 121 | 217 => 99 | 225 => 100 | 224 => 101 | 267 => 102 | 266 => 119 | 314 => 120 | n => n, fun | 9 => 9 | 3 => 3 | 31 => 67 | 4 => 4 | 0 => 0 | 105 => 141 | 21 => 21 | 5 => 5 | 46 => 62 | 119 => 164 | 139 => 167 | 138 => 166 | 146 => 154 | 51 => 28 | n => n, fun | 1 => 1 | 3 => 5 | 4 => 6 | n => n⟩
theorem Tryd.lays221 : Go.Proofs.Lays.n221 Tryd.prog Tryd.lays221_ren := {
  mixed := by kernel_rfl
  f138 := Tryd.func81.trans (congrArg some (by kernel_rfl))
  f143 := Tryd.func82.trans (congrArg some (by kernel_rfl))
  f195 := Tryd.func105.trans (congrArg some (by kernel_rfl))
  f197 := Tryd.func106.trans (congrArg some (by kernel_rfl))
  f217 := Tryd.func99.trans (congrArg some (by kernel_rfl))
  f218 := Tryd.func107.trans (congrArg some (by kernel_rfl))
  f219 := Tryd.func74.trans (congrArg some (by kernel_rfl))
  f221 := Tryd.func62.trans (congrArg some (by kernel_rfl))
  f224 := Tryd.func101.trans (congrArg some (by kernel_rfl))
  f225 := Tryd.func100.trans (congrArg some (by kernel_rfl))
  f260 := Tryd.func121.trans (congrArg some (by kernel_rfl))
  f266 := Tryd.func119.trans (congrArg some (by kernel_rfl))
  f267 := Tryd.func102.trans (congrArg some (by kernel_rfl))
  f268 := Tryd.func80.trans (congrArg some (by kernel_rfl))
  f314 := Tryd.func120.trans (congrArg some (by kernel_rfl))
  t0 := Tryd.underlying0
  a0 := Tryd.isAgg0
  z0 := Tryd.sizeOf0
  v0 := Tryd.zeroValue0
  t3 := Tryd.underlying3
  a3 := Tryd.isAgg3
  z3 := Tryd.sizeOf3
  v3 := Tryd.zeroValue3
  t4 := Tryd.underlying4
  a4 := Tryd.isAgg4
  z4 := Tryd.sizeOf4
  v4 := Tryd.zeroValue4
  t5 := Tryd.underlying5
  a5 := Tryd.isAgg5
  z5 := Tryd.sizeOf5
  v5 := Tryd.zeroValue5
  t9 := Tryd.underlying9
  a9 := Tryd.isAgg9
  z9 := Tryd.sizeOf9
  v9 := Tryd.zeroValue9
  t21 := Tryd.underlying21
  a21 := Tryd.isAgg21
  z21 := Tryd.sizeOf21
  v21 := Tryd.zeroValue21
  t31 := Tryd.underlying67
  a31 := Tryd.isAgg67
  z31 := Tryd.sizeOf67
  v31 := Tryd.zeroValue67
  t46 := Tryd.underlying62
  a46 := Tryd.isAgg62
  z46 := Tryd.sizeOf62
  v46 := Tryd.zeroValue62
  t51 := Tryd.underlying28
  a51 := Tryd.isAgg28
  z51 := Tryd.sizeOf28
  v51 := Tryd.zeroValue28
  t105 := Tryd.underlying141
  a105 := Tryd.isAgg141
  z105 := Tryd.sizeOf141
  v105 := Tryd.zeroValue141
  t119 := Tryd.underlying164
  a119 := Tryd.isAgg164
  z119 := Tryd.sizeOf164
  t138 := Tryd.underlying166
  a138 := Tryd.isAgg166
  z138 := Tryd.sizeOf166
  v138 := Tryd.zeroValue166
  t139 := Tryd.underlying167
  a139 := Tryd.isAgg167
  z139 := Tryd.sizeOf167
  v139 := Tryd.zeroValue167
  t146 := Tryd.underlying154
  a146 := Tryd.isAgg154
  z146 := Tryd.sizeOf154
  v146 := Tryd.zeroValue154
  g1 := by kernel_rfl
  g3 := by kernel_rfl
  g4 := by kernel_rfl }
open Go.RowKit Go.Lib in
theorem Tryd.strings_genSplit (s sep : ByteArray) (sv : Nat) (n : Int) (N : Nat) (m : Int) (w : World) (hs : s.size < 4294967281) (hm : w.cell? ⟨1, 0, none⟩ = some (.int .i64 m)) (h1 : 1 ≤ sep.size) (hsv : sv ≤ sep.size) (hn0 : n ≠ 0) (hn63 : n ≤ 9223372036854775807) (hN : (N : Int) = min (if n < 0 then (Lib.countB s sep : Int) + 1 else n) ((s.size : Int) + 1)) :
    Calls Tryd.prog 62 #[.string s, .string sep, .int .i64 sv, .int .i64 n] w fun e w' =>
      e = .returned (.slice (some ⟨w.heap.size, 0, none⟩) (Lib.splitB sep sv (N - 1) s).length N) ∧ w' = w.alloc (.cells (Lib.cellsOf (Lib.splitB sep sv (N - 1) s) N) 9) := Any.strings_genSplit Tryd.lays221 (by kernel_rfl) s sep sv n N m w hs hm h1 hsv hn0 hn63 hN
def Tryd.lays146_ren : Go.Shelf.Ren := ⟨fun | 146 => 43 | 221 => 62 | 268 => 80 | 138 => 81 | 143 => 82 | 195 => 105 | 197 => 106 | 218 => 107 | 219 => 74 | 260 => 121 | 217 => 99 | 225 => 100 | 224 => 101 | 267 => 102 | 266 => 119 | 314 => 120 | n => n, fun | 9 => 9 | 31 => 67 | 3 => 3 | 4 => 4 | 0 => 0 | 105 => 141 | 21 => 21 | 5 => 5 | 46 => 62 | 119 => 164 | 139 => 167 | 138 => 166 | 146 => 154 | 51 => 28 | n => n, fun | 1 => 1 | 3 => 5 | 4 => 6 | n => n⟩
theorem Tryd.lays146 : Go.Proofs.Lays.n146 Tryd.prog Tryd.lays146_ren := {
  mixed := by kernel_rfl
  f138 := Tryd.func81.trans (congrArg some (by kernel_rfl))
  f143 := Tryd.func82.trans (congrArg some (by kernel_rfl))
  f146 := Tryd.func43.trans (congrArg some (by kernel_rfl))
  f195 := Tryd.func105.trans (congrArg some (by kernel_rfl))
  f197 := Tryd.func106.trans (congrArg some (by kernel_rfl))
  f217 := Tryd.func99.trans (congrArg some (by kernel_rfl))
  f218 := Tryd.func107.trans (congrArg some (by kernel_rfl))
  f219 := Tryd.func74.trans (congrArg some (by kernel_rfl))
  f221 := Tryd.func62.trans (congrArg some (by kernel_rfl))
  f224 := Tryd.func101.trans (congrArg some (by kernel_rfl))
  f225 := Tryd.func100.trans (congrArg some (by kernel_rfl))
  f260 := Tryd.func121.trans (congrArg some (by kernel_rfl))
  f266 := Tryd.func119.trans (congrArg some (by kernel_rfl))
  f267 := Tryd.func102.trans (congrArg some (by kernel_rfl))
  f268 := Tryd.func80.trans (congrArg some (by kernel_rfl))
  f314 := Tryd.func120.trans (congrArg some (by kernel_rfl))
  t0 := Tryd.underlying0
  a0 := Tryd.isAgg0
  z0 := Tryd.sizeOf0
  v0 := Tryd.zeroValue0
  t3 := Tryd.underlying3
  a3 := Tryd.isAgg3
  z3 := Tryd.sizeOf3
  v3 := Tryd.zeroValue3
  t4 := Tryd.underlying4
  a4 := Tryd.isAgg4
  z4 := Tryd.sizeOf4
  v4 := Tryd.zeroValue4
  t5 := Tryd.underlying5
  a5 := Tryd.isAgg5
  z5 := Tryd.sizeOf5
  v5 := Tryd.zeroValue5
  t9 := Tryd.underlying9
  a9 := Tryd.isAgg9
  z9 := Tryd.sizeOf9
  v9 := Tryd.zeroValue9
  t21 := Tryd.underlying21
  a21 := Tryd.isAgg21
  z21 := Tryd.sizeOf21
  v21 := Tryd.zeroValue21
  t31 := Tryd.underlying67
  a31 := Tryd.isAgg67
  z31 := Tryd.sizeOf67
  v31 := Tryd.zeroValue67
  t46 := Tryd.underlying62
  a46 := Tryd.isAgg62
  z46 := Tryd.sizeOf62
  v46 := Tryd.zeroValue62
  t51 := Tryd.underlying28
  a51 := Tryd.isAgg28
  z51 := Tryd.sizeOf28
  v51 := Tryd.zeroValue28
  t105 := Tryd.underlying141
  a105 := Tryd.isAgg141
  z105 := Tryd.sizeOf141
  v105 := Tryd.zeroValue141
  t119 := Tryd.underlying164
  a119 := Tryd.isAgg164
  z119 := Tryd.sizeOf164
  t138 := Tryd.underlying166
  a138 := Tryd.isAgg166
  z138 := Tryd.sizeOf166
  v138 := Tryd.zeroValue166
  t139 := Tryd.underlying167
  a139 := Tryd.isAgg167
  z139 := Tryd.sizeOf167
  v139 := Tryd.zeroValue167
  t146 := Tryd.underlying154
  a146 := Tryd.isAgg154
  z146 := Tryd.sizeOf154
  v146 := Tryd.zeroValue154
  g1 := by kernel_rfl
  g3 := by kernel_rfl
  g4 := by kernel_rfl }
open Go.RowKit Go.Lib in
theorem Tryd.strings_Split (s sep : ByteArray) (m : Int) (w : World) (hs : s.size < 4294967281) (hm : w.cell? ⟨1, 0, none⟩ = some (.int .i64 m)) (h1 : 1 ≤ sep.size) :
    Calls Tryd.prog 43 #[.string s, .string sep] w fun e w' =>
      e = .returned (.slice (some ⟨w.heap.size, 0, none⟩) (Lib.countB s sep + 1) (Lib.countB s sep + 1)) ∧ w' = w.alloc (.cells ((Lib.splitB sep 0 (Lib.countB s sep) s).map Value.string).toArray 9) := Any.strings_Split Tryd.lays146 (by kernel_rfl) s sep m w hs hm h1
def Tryd.lays195_ren : Go.Shelf.Ren := ⟨fun | 195 => 105 | n => n, fun | 9 => 9 | 3 => 3 | 0 => 0 | 4 => 4 | n => n, fun | n => n⟩
theorem Tryd.lays195 : Go.Proofs.Lays.n195 Tryd.prog Tryd.lays195_ren := {
  mixed := by kernel_rfl
  f195 := Tryd.func105.trans (congrArg some (by kernel_rfl))
  t0 := Tryd.underlying0
  a0 := Tryd.isAgg0
  z0 := Tryd.sizeOf0
  v0 := Tryd.zeroValue0
  t3 := Tryd.underlying3
  a3 := Tryd.isAgg3
  z3 := Tryd.sizeOf3
  v3 := Tryd.zeroValue3
  t4 := Tryd.underlying4
  a4 := Tryd.isAgg4
  z4 := Tryd.sizeOf4
  v4 := Tryd.zeroValue4
  t9 := Tryd.underlying9
  a9 := Tryd.isAgg9
  z9 := Tryd.sizeOf9
  v9 := Tryd.zeroValue9 }
open Go.RowKit Go.Lib in
theorem Tryd.utf8_RuneCountInString_ascii (s : ByteArray) (w : World) (hs : s.size < 4294967281) (hascii : ∀ (j : Nat) b, s.data.toList[j]? = some b → b.toNat < 128) :
    Calls Tryd.prog 105 #[.string s] w fun e w' => e = .returned (.int .i64 s.size) ∧ w' = w.iter s s.size := Any.utf8_RuneCountInString_ascii Tryd.lays195 s w hs hascii
end Go.Proofs.YtpomloangafbkaaDoor
