/- Joined. -/
import Derived.Test.YtoigglljnklhlaaGreatDoorProg
import Derived.Shelf.Bytes.SlClone
import Derived.Shelf.Slices.In.SortNone
import Derived.Shelf.Slices.SearchI
import Derived.Shelf.Slices.Turned
import Derived.Shelf.Small.Wraps
import Derived.Shelf.Sort.Plain
import Derived.Shelf.Strconv.Itoa4
import Derived.Shelf.Strings.BuilderCap
import Derived.Shelf.Strings.Explode
import Derived.Shelf.Strings.FieldsAny
import Derived.Shelf.Strings.FieldsFuncGrows
import Derived.Shelf.Strings.OnBuilder
import Derived.Shelf.Strings.Repeat
import Derived.Shelf.Strings.Shaped
import Derived.Shelf.Strings.SplitShaped
import Derived.Shelf.Unicode.ExclAny
import Derived.Shelf.Utf8.RuneCount
set_option maxHeartbeats 8000000
set_option maxRecDepth 100000
namespace Go.Proofs
open Go.Shelf
def Tryz.lays169_ren : Go.Shelf.Ren := ⟨fun | 169 => 40 | n => n, fun | 70 => 75 | 9 => 9 | 0 => 0 | 72 => 77 | 37 => 33 | 127 => 132 | 3 => 3 | 5 => 5 | n => n, fun | n => n⟩
theorem Tryz.lays169 : Go.Proofs.Lays.n169 Tryz.prog Tryz.lays169_ren := {
  mixed := by kernel_rfl
  f169 := Tryz.func40.trans (congrArg some (by kernel_rfl))
  t0 := Tryz.underlying0
  a0 := Tryz.isAgg0
  z0 := Tryz.sizeOf0
  v0 := Tryz.zeroValue0
  t3 := Tryz.underlying3
  a3 := Tryz.isAgg3
  z3 := Tryz.sizeOf3
  v3 := Tryz.zeroValue3
  t9 := Tryz.underlying9
  a9 := Tryz.isAgg9
  z9 := Tryz.sizeOf9
  v9 := Tryz.zeroValue9
  t37 := Tryz.underlying33
  a37 := Tryz.isAgg33
  z37 := Tryz.sizeOf33
  v37 := Tryz.zeroValue33
  t70 := Tryz.underlying75
  a70 := Tryz.isAgg75
  z70 := Tryz.sizeOf75
  v70 := Tryz.zeroValue75
  t72 := Tryz.underlying77
  a72 := Tryz.isAgg77
  z72 := Tryz.sizeOf77
  v72 := Tryz.zeroValue77
  t127 := Tryz.underlying132
  a127 := Tryz.isAgg132
  z127 := Tryz.sizeOf132
  v127 := Tryz.zeroValue132 }
theorem Tryz.Builder_Extra_169 : Builder.Extra Tryz.prog Tryz.lays169_ren := {
  sizeBuilder := by kernel_rfl
  liesBuilder := by kernel_rfl
  t5 := Tryz.underlying5
  a5 := Tryz.isAgg5
  z5 := Tryz.sizeOf5
  v5 := Tryz.zeroValue5
  infoByte := by kernel_rfl
  cellsByte := by kernel_rfl
  sizeByte := by kernel_rfl
  neB5 := by decide }
def Tryz.lays156_ren : Go.Shelf.Ren := ⟨fun | 156 => 109 | 165 => 112 | 166 => 38 | 169 => 40 | 240 => 69 | 241 => 157 | 276 => 108 | 277 => 198 | n => n, fun | 31 => 177 | 9 => 9 | 3 => 3 | 4 => 4 | 0 => 0 | 20 => 20 | 72 => 77 | 76 => 83 | 70 => 75 | 37 => 33 | 75 => 82 | 127 => 132 | 164 => 175 | 5 => 5 | 80 => 85 | n => n, fun | n => n⟩
theorem Tryz.lays156 : Go.Proofs.Lays.n156 Tryz.prog Tryz.lays156_ren := {
  mixed := by kernel_rfl
  f156 := Tryz.func109.trans (congrArg some (by kernel_rfl))
  f165 := Tryz.func112.trans (congrArg some (by kernel_rfl))
  f166 := Tryz.func38.trans (congrArg some (by kernel_rfl))
  f169 := Tryz.func40.trans (congrArg some (by kernel_rfl))
  f240 := Tryz.func69.trans (congrArg some (by kernel_rfl))
  f241 := Tryz.func157.trans (congrArg some (by kernel_rfl))
  f276 := Tryz.func108.trans (congrArg some (by kernel_rfl))
  f277 := Tryz.func198.trans (congrArg some (by kernel_rfl))
  t0 := Tryz.underlying0
  a0 := Tryz.isAgg0
  z0 := Tryz.sizeOf0
  v0 := Tryz.zeroValue0
  t3 := Tryz.underlying3
  a3 := Tryz.isAgg3
  z3 := Tryz.sizeOf3
  v3 := Tryz.zeroValue3
  t4 := Tryz.underlying4
  a4 := Tryz.isAgg4
  z4 := Tryz.sizeOf4
  v4 := Tryz.zeroValue4
  t9 := Tryz.underlying9
  a9 := Tryz.isAgg9
  z9 := Tryz.sizeOf9
  v9 := Tryz.zeroValue9
  t20 := Tryz.underlying20
  a20 := Tryz.isAgg20
  z20 := Tryz.sizeOf20
  v20 := Tryz.zeroValue20
  t31 := Tryz.underlying177
  a31 := Tryz.isAgg177
  z31 := Tryz.sizeOf177
  v31 := Tryz.zeroValue177
  t37 := Tryz.underlying33
  a37 := Tryz.isAgg33
  z37 := Tryz.sizeOf33
  v37 := Tryz.zeroValue33
  t70 := Tryz.underlying75
  a70 := Tryz.isAgg75
  z70 := Tryz.sizeOf75
  v70 := Tryz.zeroValue75
  t72 := Tryz.underlying77
  a72 := Tryz.isAgg77
  z72 := Tryz.sizeOf77
  v72 := Tryz.zeroValue77
  t75 := Tryz.underlying82
  a75 := Tryz.isAgg82
  z75 := Tryz.sizeOf82
  v75 := Tryz.zeroValue82
  t76 := Tryz.underlying83
  a76 := Tryz.isAgg83
  z76 := Tryz.sizeOf83
  v76 := Tryz.zeroValue83
  t127 := Tryz.underlying132
  a127 := Tryz.isAgg132
  z127 := Tryz.sizeOf132
  v127 := Tryz.zeroValue132
  t164 := Tryz.underlying175
  a164 := Tryz.isAgg175
  z164 := Tryz.sizeOf175
  v164 := Tryz.zeroValue175 }
theorem Tryz.Builder_Extra_156 : Builder.Extra Tryz.prog Tryz.lays156_ren := {
  sizeBuilder := by kernel_rfl
  liesBuilder := by kernel_rfl
  t5 := Tryz.underlying5
  a5 := Tryz.isAgg5
  z5 := Tryz.sizeOf5
  v5 := Tryz.zeroValue5
  infoByte := by kernel_rfl
  cellsByte := by kernel_rfl
  sizeByte := by kernel_rfl
  neB5 := by decide }
open Go.RowKit in
theorem Tryz.strings_Join_none (a : Option Addr) (c : Nat) (sep : ByteArray) (w : World) :
    Calls Tryz.prog 109 #[.slice a 0 c, .string sep] w fun e w' => e = .returned (.string ⟨#[]⟩) ∧ w' = w := Any.strings_Join_none Tryz.lays156 Tryz.Builder_Extra_156 a c sep w
open Go.RowKit in
theorem Tryz.strings_Join (bk o c : Nat) (xs : List ByteArray) (sep : ByteArray) (w : World) (hcells : ∀ (j : Nat) x, xs[j]? = some x → w.cell? ⟨bk, o + j, none⟩ = some (.string x)) (hbk : bk < w.heap.size) (hN : xs.length ≤ 140737488355328) (hcap : xs.length ≤ c) (hlen : (Lib.join (xs.map (·.data.toList)) sep.data.toList).length ≤ 140737488355328) :
    Calls Tryz.prog 109 #[.slice (some ⟨bk, o, none⟩) xs.length c, .string sep] w fun e w' => e = .returned (.string ⟨(Lib.join (xs.map (·.data.toList)) sep.data.toList).toArray⟩) ∧ Below w.heap.size w w' := Any.strings_Join Tryz.lays156 Tryz.Builder_Extra_156 bk o c xs sep w hcells hbk hN hcap hlen
def Tryz.lays103_ren : Go.Shelf.Ren := ⟨fun | 103 => 294 | 210 => 304 | 206 => 156 | n => n, fun | 9 => 9 | 4 => 4 | 24 => 309 | 3 => 3 | n => n, fun | n => n⟩
theorem Tryz.lays103 : Go.Proofs.Lays.n103 Tryz.prog Tryz.lays103_ren := {
  mixed := by kernel_rfl
  f103 := Tryz.func294.trans (congrArg some (by kernel_rfl))
  f206 := Tryz.func156.trans (congrArg some (by kernel_rfl))
  f210 := Tryz.func304.trans (congrArg some (by kernel_rfl))
  t3 := Tryz.underlying3
  a3 := Tryz.isAgg3
  z3 := Tryz.sizeOf3
  v3 := Tryz.zeroValue3
  t4 := Tryz.underlying4
  a4 := Tryz.isAgg4
  z4 := Tryz.sizeOf4
  v4 := Tryz.zeroValue4
  t9 := Tryz.underlying9
  a9 := Tryz.isAgg9
  z9 := Tryz.sizeOf9
  v9 := Tryz.zeroValue9
  t24 := Tryz.underlying309
  a24 := Tryz.isAgg309
  z24 := Tryz.sizeOf309
  v24 := Tryz.zeroValue309 }
open Go.RowKit in
theorem Tryz.strings_CutPrefix (s p : ByteArray) (w : World) :
    Calls Tryz.prog 294 #[.string s, .string p] w fun e w' => e = .returned (.tuple #[.string ⟨(Lib.trimPrefix s.data.toList p.data.toList).toArray⟩, .bool (Lib.hasPrefix s.data.toList p.data.toList)]) ∧ w' = w := Any.strings_CutPrefix Tryz.lays103 s p w
open Go.RowKit in
theorem Tryz.Builder_String_any_k (B b : Nat) (l : List UInt8) (w : World) (h : Lib.IsBuilderF 77 5 B b (Lib.byteCells l) w) (hBw : B ≤ w.heap.size) :
    Calls Tryz.prog 40 #[.pointer (some ⟨b, 0, none⟩)] w fun e w' => e = .returned (.string ⟨l.toArray⟩) ∧ (Lib.IsBuilderF 77 5 B b (Lib.byteCells l) w' ∧ Below B w w' ∧ Lib.OthersKept 5 (some b) w w') := Any.Builder_String_any_k Tryz.lays169 Tryz.Builder_Extra_169 B b l w h hBw
def Tryz.lays171_ren : Go.Shelf.Ren := ⟨fun | 171 => 94 | 243 => 134 | 246 => 135 | 283 => 170 | 284 => 171 | 285 => 172 | 286 => 173 | 129 => 188 | 317 => 210 | 318 => 211 | 319 => 212 | 320 => 213 | 337 => 247 | 338 => 80 | n => n, fun | 3 => 3 | 9 => 9 | 2 => 2 | 4 => 4 | 171 => 233 | 0 => 0 | 53 => 88 | 37 => 33 | 5 => 5 | 173 => 235 | 212 => 273 | 51 => 217 | 20 => 20 | 213 => 274 | 46 => 118 | 232 => 328 | 233 => 189 | n => n, fun | 17 => 1 | 18 => 4 | 19 => 0 | n => n⟩
theorem Tryz.lays171 : Go.Proofs.Lays.n171 Tryz.prog Tryz.lays171_ren := {
  mixed := by kernel_rfl
  f129 := Tryz.func188.trans (congrArg some (by kernel_rfl))
  f171 := Tryz.func94.trans (congrArg some (by kernel_rfl))
  f243 := Tryz.func134.trans (congrArg some (by kernel_rfl))
  f246 := Tryz.func135.trans (congrArg some (by kernel_rfl))
  f283 := Tryz.func170.trans (congrArg some (by kernel_rfl))
  f284 := Tryz.func171.trans (congrArg some (by kernel_rfl))
  f285 := Tryz.func172.trans (congrArg some (by kernel_rfl))
  f286 := Tryz.func173.trans (congrArg some (by kernel_rfl))
  f317 := Tryz.func210.trans (congrArg some (by kernel_rfl))
  f318 := Tryz.func211.trans (congrArg some (by kernel_rfl))
  f319 := Tryz.func212.trans (congrArg some (by kernel_rfl))
  f320 := Tryz.func213.trans (congrArg some (by kernel_rfl))
  f337 := Tryz.func247.trans (congrArg some (by kernel_rfl))
  f338 := Tryz.func80.trans (congrArg some (by kernel_rfl))
  t0 := Tryz.underlying0
  a0 := Tryz.isAgg0
  z0 := Tryz.sizeOf0
  v0 := Tryz.zeroValue0
  t2 := Tryz.underlying2
  a2 := Tryz.isAgg2
  z2 := Tryz.sizeOf2
  v2 := Tryz.zeroValue2
  t3 := Tryz.underlying3
  a3 := Tryz.isAgg3
  z3 := Tryz.sizeOf3
  v3 := Tryz.zeroValue3
  t4 := Tryz.underlying4
  a4 := Tryz.isAgg4
  z4 := Tryz.sizeOf4
  v4 := Tryz.zeroValue4
  t5 := Tryz.underlying5
  a5 := Tryz.isAgg5
  z5 := Tryz.sizeOf5
  v5 := Tryz.zeroValue5
  t9 := Tryz.underlying9
  a9 := Tryz.isAgg9
  z9 := Tryz.sizeOf9
  v9 := Tryz.zeroValue9
  t20 := Tryz.underlying20
  a20 := Tryz.isAgg20
  z20 := Tryz.sizeOf20
  v20 := Tryz.zeroValue20
  t37 := Tryz.underlying33
  a37 := Tryz.isAgg33
  z37 := Tryz.sizeOf33
  v37 := Tryz.zeroValue33
  t46 := Tryz.underlying118
  a46 := Tryz.isAgg118
  z46 := Tryz.sizeOf118
  v46 := Tryz.zeroValue118
  t51 := Tryz.underlying217
  a51 := Tryz.isAgg217
  z51 := Tryz.sizeOf217
  v51 := Tryz.zeroValue217
  t53 := Tryz.underlying88
  a53 := Tryz.isAgg88
  z53 := Tryz.sizeOf88
  v53 := Tryz.zeroValue88
  t171 := Tryz.underlying233
  a171 := Tryz.isAgg233
  z171 := Tryz.sizeOf233
  v171 := Tryz.zeroValue233
  t173 := Tryz.underlying235
  a173 := Tryz.isAgg235
  z173 := Tryz.sizeOf235
  v173 := Tryz.zeroValue235
  t212 := Tryz.underlying273
  a212 := Tryz.isAgg273
  z212 := Tryz.sizeOf273
  v212 := Tryz.zeroValue273
  t213 := Tryz.underlying274
  a213 := Tryz.isAgg274
  z213 := Tryz.sizeOf274
  t232 := Tryz.underlying328
  a232 := Tryz.isAgg328
  z232 := Tryz.sizeOf328
  v232 := Tryz.zeroValue328
  t233 := Tryz.underlying189
  a233 := Tryz.isAgg189
  z233 := Tryz.sizeOf189
  v233 := Tryz.zeroValue189
  g17 := by kernel_rfl
  g18 := by kernel_rfl
  g19 := by kernel_rfl }
open Go.RowKit Go.Sort Go.Lib in
theorem Tryz.strconv_Itoa_small (i : Nat) (hi : i < 100) (w : World) :
    Calls Tryz.prog 94 #[.int .i64 i] w fun e w' => e = .returned (.string ⟨(Lib.decDigits i).toArray⟩) ∧ w' = w := Any.strconv_Itoa_small Tryz.lays171 i hi w
def Tryz.lays219_ren : Go.Shelf.Ren := ⟨fun | 219 => 298 | 217 => 308 | 225 => 309 | 224 => 310 | 267 => 311 | 266 => 315 | 314 => 316 | n => n, fun | 9 => 9 | 3 => 3 | 4 => 4 | 5 => 5 | 46 => 118 | 146 => 218 | 51 => 217 | n => n, fun | 1 => 2 | n => n⟩
theorem Tryz.lays219 : Go.Proofs.Lays.n219 Tryz.prog Tryz.lays219_ren := {
  mixed := by kernel_rfl
  f217 := Tryz.func308.trans (congrArg some (by kernel_rfl))
  f219 := Tryz.func298.trans (congrArg some (by kernel_rfl))
  f224 := Tryz.func310.trans (congrArg some (by kernel_rfl))
  f225 := Tryz.func309.trans (congrArg some (by kernel_rfl))
  f266 := Tryz.func315.trans (congrArg some (by kernel_rfl))
  f267 := Tryz.func311.trans (congrArg some (by kernel_rfl))
  f314 := Tryz.func316.trans (congrArg some (by kernel_rfl))
  t3 := Tryz.underlying3
  a3 := Tryz.isAgg3
  z3 := Tryz.sizeOf3
  v3 := Tryz.zeroValue3
  t4 := Tryz.underlying4
  a4 := Tryz.isAgg4
  z4 := Tryz.sizeOf4
  v4 := Tryz.zeroValue4
  t5 := Tryz.underlying5
  a5 := Tryz.isAgg5
  z5 := Tryz.sizeOf5
  v5 := Tryz.zeroValue5
  t9 := Tryz.underlying9
  a9 := Tryz.isAgg9
  z9 := Tryz.sizeOf9
  v9 := Tryz.zeroValue9
  t46 := Tryz.underlying118
  a46 := Tryz.isAgg118
  z46 := Tryz.sizeOf118
  v46 := Tryz.zeroValue118
  t51 := Tryz.underlying217
  a51 := Tryz.isAgg217
  z51 := Tryz.sizeOf217
  v51 := Tryz.zeroValue217
  t146 := Tryz.underlying218
  a146 := Tryz.isAgg218
  z146 := Tryz.sizeOf218
  v146 := Tryz.zeroValue218
  g1 := by kernel_rfl }
open Go.RowKit Go.Lib in
theorem Tryz.stringslite_Index_one (s : ByteArray) (c : UInt8) (w : World) :
    Calls Tryz.prog 298 #[.string s, .string ⟨#[c]⟩] w fun e w' => e = .returned (.int .i64 (Lib.indexByte s.data.toList c)) ∧ w' = w := Any.stringslite_Index_one Tryz.lays219 s c w
def Tryz.lays144_ren : Go.Shelf.Ren := ⟨fun | 144 => 255 | 143 => 288 | 219 => 298 | 217 => 308 | 225 => 309 | 224 => 310 | 267 => 311 | 266 => 315 | 314 => 316 | n => n, fun | 9 => 9 | 4 => 4 | 3 => 3 | 5 => 5 | 46 => 118 | 146 => 218 | 51 => 217 | n => n, fun | 1 => 2 | n => n⟩
theorem Tryz.lays144 : Go.Proofs.Lays.n144 Tryz.prog Tryz.lays144_ren := {
  mixed := by kernel_rfl
  f143 := Tryz.func288.trans (congrArg some (by kernel_rfl))
  f144 := Tryz.func255.trans (congrArg some (by kernel_rfl))
  f217 := Tryz.func308.trans (congrArg some (by kernel_rfl))
  f219 := Tryz.func298.trans (congrArg some (by kernel_rfl))
  f224 := Tryz.func310.trans (congrArg some (by kernel_rfl))
  f225 := Tryz.func309.trans (congrArg some (by kernel_rfl))
  f266 := Tryz.func315.trans (congrArg some (by kernel_rfl))
  f267 := Tryz.func311.trans (congrArg some (by kernel_rfl))
  f314 := Tryz.func316.trans (congrArg some (by kernel_rfl))
  t3 := Tryz.underlying3
  a3 := Tryz.isAgg3
  z3 := Tryz.sizeOf3
  v3 := Tryz.zeroValue3
  t4 := Tryz.underlying4
  a4 := Tryz.isAgg4
  z4 := Tryz.sizeOf4
  v4 := Tryz.zeroValue4
  t5 := Tryz.underlying5
  a5 := Tryz.isAgg5
  z5 := Tryz.sizeOf5
  v5 := Tryz.zeroValue5
  t9 := Tryz.underlying9
  a9 := Tryz.isAgg9
  z9 := Tryz.sizeOf9
  v9 := Tryz.zeroValue9
  t46 := Tryz.underlying118
  a46 := Tryz.isAgg118
  z46 := Tryz.sizeOf118
  v46 := Tryz.zeroValue118
  t51 := Tryz.underlying217
  a51 := Tryz.isAgg217
  z51 := Tryz.sizeOf217
  v51 := Tryz.zeroValue217
  t146 := Tryz.underlying218
  a146 := Tryz.isAgg218
  z146 := Tryz.sizeOf218
  v146 := Tryz.zeroValue218
  g1 := by kernel_rfl }
open Go.RowKit Go.Lib in
theorem Tryz.strings_Contains_one (s : ByteArray) (c : UInt8) (w : World) :
    Calls Tryz.prog 255 #[.string s, .string ⟨#[c]⟩] w fun e w' => e = .returned (.bool (decide (0 ≤ Lib.indexByte s.data.toList c))) ∧ w' = w := Any.strings_Contains_one Tryz.lays144 s c w
def Tryz.lays102_ren : Go.Shelf.Ren := ⟨fun | 102 => 116 | 209 => 165 | 207 => 208 | n => n, fun | 9 => 9 | 4 => 4 | 3 => 3 | n => n, fun | n => n⟩
theorem Tryz.lays102 : Go.Proofs.Lays.n102 Tryz.prog Tryz.lays102_ren := {
  mixed := by kernel_rfl
  f102 := Tryz.func116.trans (congrArg some (by kernel_rfl))
  f207 := Tryz.func208.trans (congrArg some (by kernel_rfl))
  f209 := Tryz.func165.trans (congrArg some (by kernel_rfl))
  t3 := Tryz.underlying3
  a3 := Tryz.isAgg3
  z3 := Tryz.sizeOf3
  v3 := Tryz.zeroValue3
  t4 := Tryz.underlying4
  a4 := Tryz.isAgg4
  z4 := Tryz.sizeOf4
  v4 := Tryz.zeroValue4
  t9 := Tryz.underlying9
  a9 := Tryz.isAgg9
  z9 := Tryz.sizeOf9
  v9 := Tryz.zeroValue9 }
open Go.RowKit Go.Lib in
theorem Tryz.strings_TrimSuffix (s p : ByteArray) (w : World) (hs : s.size ≤ 9223372036854775807) :
    Calls Tryz.prog 116 #[.string s, .string p] w fun e w' => e = .returned (.string ⟨(Lib.trimSuffix s.data.toList p.data.toList).toArray⟩) ∧ w' = w := Any.strings_TrimSuffix Tryz.lays102 s p w hs
def Tryz.lays146_ren : Go.Shelf.Ren := ⟨fun | 146 => 275 | 221 => 293 | 268 => 302 | 138 => 303 | 143 => 288 | 195 => 312 | 197 => 313 | 218 => 314 | 219 => 298 | 260 => 317 | 217 => 308 | 225 => 309 | 224 => 310 | 267 => 311 | 266 => 315 | 314 => 316 | n => n, fun | 9 => 9 | 31 => 177 | 3 => 3 | 4 => 4 | 0 => 0 | 105 => 364 | 21 => 21 | 5 => 5 | 46 => 118 | 119 => 325 | 139 => 370 | 138 => 369 | 146 => 218 | 51 => 217 | n => n, fun | 1 => 2 | 3 => 6 | 4 => 7 | n => n⟩
theorem Tryz.lays146 : Go.Proofs.Lays.n146 Tryz.prog Tryz.lays146_ren := {
  mixed := by kernel_rfl
  f138 := Tryz.func303.trans (congrArg some (by kernel_rfl))
  f143 := Tryz.func288.trans (congrArg some (by kernel_rfl))
  f146 := Tryz.func275.trans (congrArg some (by kernel_rfl))
  f195 := Tryz.func312.trans (congrArg some (by kernel_rfl))
  f197 := Tryz.func313.trans (congrArg some (by kernel_rfl))
  f217 := Tryz.func308.trans (congrArg some (by kernel_rfl))
  f218 := Tryz.func314.trans (congrArg some (by kernel_rfl))
  f219 := Tryz.func298.trans (congrArg some (by kernel_rfl))
  f221 := Tryz.func293.trans (congrArg some (by kernel_rfl))
  f224 := Tryz.func310.trans (congrArg some (by kernel_rfl))
  f225 := Tryz.func309.trans (congrArg some (by kernel_rfl))
  f260 := Tryz.func317.trans (congrArg some (by kernel_rfl))
  f266 := Tryz.func315.trans (congrArg some (by kernel_rfl))
  f267 := Tryz.func311.trans (congrArg some (by kernel_rfl))
  f268 := Tryz.func302.trans (congrArg some (by kernel_rfl))
  f314 := Tryz.func316.trans (congrArg some (by kernel_rfl))
  t0 := Tryz.underlying0
  a0 := Tryz.isAgg0
  z0 := Tryz.sizeOf0
  v0 := Tryz.zeroValue0
  t3 := Tryz.underlying3
  a3 := Tryz.isAgg3
  z3 := Tryz.sizeOf3
  v3 := Tryz.zeroValue3
  t4 := Tryz.underlying4
  a4 := Tryz.isAgg4
  z4 := Tryz.sizeOf4
  v4 := Tryz.zeroValue4
  t5 := Tryz.underlying5
  a5 := Tryz.isAgg5
  z5 := Tryz.sizeOf5
  v5 := Tryz.zeroValue5
  t9 := Tryz.underlying9
  a9 := Tryz.isAgg9
  z9 := Tryz.sizeOf9
  v9 := Tryz.zeroValue9
  t21 := Tryz.underlying21
  a21 := Tryz.isAgg21
  z21 := Tryz.sizeOf21
  v21 := Tryz.zeroValue21
  t31 := Tryz.underlying177
  a31 := Tryz.isAgg177
  z31 := Tryz.sizeOf177
  v31 := Tryz.zeroValue177
  t46 := Tryz.underlying118
  a46 := Tryz.isAgg118
  z46 := Tryz.sizeOf118
  v46 := Tryz.zeroValue118
  t51 := Tryz.underlying217
  a51 := Tryz.isAgg217
  z51 := Tryz.sizeOf217
  v51 := Tryz.zeroValue217
  t105 := Tryz.underlying364
  a105 := Tryz.isAgg364
  z105 := Tryz.sizeOf364
  v105 := Tryz.zeroValue364
  t119 := Tryz.underlying325
  a119 := Tryz.isAgg325
  z119 := Tryz.sizeOf325
  t138 := Tryz.underlying369
  a138 := Tryz.isAgg369
  z138 := Tryz.sizeOf369
  v138 := Tryz.zeroValue369
  t139 := Tryz.underlying370
  a139 := Tryz.isAgg370
  z139 := Tryz.sizeOf370
  v139 := Tryz.zeroValue370
  t146 := Tryz.underlying218
  a146 := Tryz.isAgg218
  z146 := Tryz.sizeOf218
  v146 := Tryz.zeroValue218
  g1 := by kernel_rfl
  g3 := by kernel_rfl
  g4 := by kernel_rfl }
open Go.RowKit Go.Lib in
theorem Tryz.strings_Split (s sep : ByteArray) (m : Int) (w : World) (hs : s.size < 4294967281) (hm : w.cell? ⟨2, 0, none⟩ = some (.int .i64 m)) (h1 : 1 ≤ sep.size) :
    Calls Tryz.prog 275 #[.string s, .string sep] w fun e w' =>
      e = .returned (.slice (some ⟨w.heap.size, 0, none⟩) (Lib.countB s sep + 1) (Lib.countB s sep + 1)) ∧ w' = w.alloc (.cells ((Lib.splitB sep 0 (Lib.countB s sep) s).map Value.string).toArray 9) := Any.strings_Split Tryz.lays146 (by kernel_rfl) s sep m w hs hm h1
def Tryz.lays157_ren : Go.Shelf.Ren := ⟨fun | 157 => 245 | 229 => 265 | 199 => 266 | 261 => 291 | 311 => 300 | 312 => 301 | n => n, fun | 9 => 9 | 31 => 177 | 3 => 3 | 5 => 5 | 4 => 4 | 119 => 325 | 0 => 0 | 40 => 327 | 152 => 337 | 21 => 21 | 154 => 339 | 51 => 217 | 141 => 341 | 196 => 349 | 193 => 346 | 198 => 352 | 49 => 350 | 194 => 347 | 201 => 355 | 226 => 361 | 46 => 118 | 227 => 362 | n => n, fun | 0 => 3 | 6 => 5 | n => n⟩
theorem Tryz.lays157 : Go.Proofs.Lays.n157 Tryz.prog Tryz.lays157_ren := {
  mixed := by kernel_rfl
  f157 := Tryz.func245.trans (congrArg some (by kernel_rfl))
  f199 := Tryz.func266.trans (congrArg some (by kernel_rfl))
  f229 := Tryz.func265.trans (congrArg some (by kernel_rfl))
  f261 := Tryz.func291.trans (congrArg some (by kernel_rfl))
  f311 := Tryz.func300.trans (congrArg some (by kernel_rfl))
  f312 := Tryz.func301.trans (congrArg some (by kernel_rfl))
  t0 := Tryz.underlying0
  a0 := Tryz.isAgg0
  z0 := Tryz.sizeOf0
  v0 := Tryz.zeroValue0
  t3 := Tryz.underlying3
  a3 := Tryz.isAgg3
  z3 := Tryz.sizeOf3
  v3 := Tryz.zeroValue3
  t4 := Tryz.underlying4
  a4 := Tryz.isAgg4
  z4 := Tryz.sizeOf4
  v4 := Tryz.zeroValue4
  t5 := Tryz.underlying5
  a5 := Tryz.isAgg5
  z5 := Tryz.sizeOf5
  v5 := Tryz.zeroValue5
  t9 := Tryz.underlying9
  a9 := Tryz.isAgg9
  z9 := Tryz.sizeOf9
  v9 := Tryz.zeroValue9
  t21 := Tryz.underlying21
  a21 := Tryz.isAgg21
  z21 := Tryz.sizeOf21
  v21 := Tryz.zeroValue21
  t31 := Tryz.underlying177
  a31 := Tryz.isAgg177
  z31 := Tryz.sizeOf177
  v31 := Tryz.zeroValue177
  t40 := Tryz.underlying327
  a40 := Tryz.isAgg327
  z40 := Tryz.sizeOf327
  v40 := Tryz.zeroValue327
  t46 := Tryz.underlying118
  a46 := Tryz.isAgg118
  z46 := Tryz.sizeOf118
  v46 := Tryz.zeroValue118
  t49 := Tryz.underlying350
  a49 := Tryz.isAgg350
  z49 := Tryz.sizeOf350
  v49 := Tryz.zeroValue350
  t51 := Tryz.underlying217
  a51 := Tryz.isAgg217
  z51 := Tryz.sizeOf217
  v51 := Tryz.zeroValue217
  t119 := Tryz.underlying325
  a119 := Tryz.isAgg325
  z119 := Tryz.sizeOf325
  t141 := Tryz.underlying341
  a141 := Tryz.isAgg341
  z141 := Tryz.sizeOf341
  v141 := Tryz.zeroValue341
  t152 := Tryz.underlying337
  a152 := Tryz.isAgg337
  z152 := Tryz.sizeOf337
  v152 := Tryz.zeroValue337
  t154 := Tryz.underlying339
  a154 := Tryz.isAgg339
  z154 := Tryz.sizeOf339
  v154 := Tryz.zeroValue339
  t193 := Tryz.underlying346
  a193 := Tryz.isAgg346
  z193 := Tryz.sizeOf346
  v193 := Tryz.zeroValue346
  t194 := Tryz.underlying347
  a194 := Tryz.isAgg347
  z194 := Tryz.sizeOf347
  v194 := Tryz.zeroValue347
  t196 := Tryz.underlying349
  a196 := Tryz.isAgg349
  z196 := Tryz.sizeOf349
  v196 := Tryz.zeroValue349
  t198 := Tryz.underlying352
  a198 := Tryz.isAgg352
  z198 := Tryz.sizeOf352
  v198 := Tryz.zeroValue352
  t201 := Tryz.underlying355
  a201 := Tryz.isAgg355
  z201 := Tryz.sizeOf355
  v201 := Tryz.zeroValue355
  t226 := Tryz.underlying361
  a226 := Tryz.isAgg361
  z226 := Tryz.sizeOf361
  v226 := Tryz.zeroValue361
  t227 := Tryz.underlying362
  a227 := Tryz.isAgg362
  z227 := Tryz.sizeOf362
  v227 := Tryz.zeroValue362
  g0 := by kernel_rfl
  g6 := by kernel_rfl }
open Go.RowKit Go.Lib in
theorem Tryz.strings_Fields (s : ByteArray) (w : World) (hs : s.size < 4294967281) (hascii : ∀ (j : Nat) b, s.data.toList[j]? = some b → b.toNat < 128) (htab : Lib.TabIs Tryz.prog w "strings.asciiSpace" .u8 Lib.asciiSpaceTab) :
    Calls Tryz.prog 245 #[.string s] w fun e w' =>
      e = .returned (.slice (some ⟨w.heap.size, 0, none⟩) (Lib.fields s.data.toList).length (Lib.fields s.data.toList).length) ∧ w' = w.alloc (.cells ((Lib.fields s.data.toList).map fun l => Value.string ⟨l.toArray⟩).toArray 9) := Any.strings_Fields Tryz.lays157 (by kernel_rfl) (by kernel_rfl) s w hs hascii htab
def Tryz.lays107_ren : Go.Shelf.Ren := ⟨fun | 107 => 150 | 108 => 191 | n => n, fun | 28 => 44 | 3 => 3 | 4 => 4 | 0 => 0 | n => n, fun | n => n⟩
theorem Tryz.lays107 : Go.Proofs.Lays.n107 Tryz.prog Tryz.lays107_ren := {
  mixed := by kernel_rfl
  f107 := Tryz.func150.trans (congrArg some (by kernel_rfl))
  f108 := Tryz.func191.trans (congrArg some (by kernel_rfl))
  t0 := Tryz.underlying0
  a0 := Tryz.isAgg0
  z0 := Tryz.sizeOf0
  v0 := Tryz.zeroValue0
  t3 := Tryz.underlying3
  a3 := Tryz.isAgg3
  z3 := Tryz.sizeOf3
  v3 := Tryz.zeroValue3
  t4 := Tryz.underlying4
  a4 := Tryz.isAgg4
  z4 := Tryz.sizeOf4
  v4 := Tryz.zeroValue4
  t28 := Tryz.underlying44
  a28 := Tryz.isAgg44
  z28 := Tryz.sizeOf44
  v28 := Tryz.zeroValue44 }
open Go.Lib in
theorem Tryz.slices_Contains_int (b off n c : Nat) (zs : List Int) (x : Int) (w : World) (hz : n ≤ zs.length) (hbig : n ≤ 9223372036854775807) (hc : ∀ j, j < zs.length → w.cell? ⟨b, off + j, none⟩ = some (.int .i64 (zs.getD j 0))) :
    Calls Tryz.prog 150 #[.slice (some ⟨b, off, none⟩) n c, .int .i64 x] w fun e w' => e = .returned (.bool ((zs.take n).contains x)) ∧ w' = w := Any.slices_Contains_int Tryz.lays107 b off n c zs x w hz hbig hc
def Tryz.lays110_ren : Go.Shelf.Ren := ⟨fun | 110 => 244 | 109 => 264 | n => n, fun | 31 => 177 | 9 => 9 | 4 => 4 | 3 => 3 | 0 => 0 | n => n, fun | n => n⟩
theorem Tryz.lays110 : Go.Proofs.Lays.n110 Tryz.prog Tryz.lays110_ren := {
  mixed := by kernel_rfl
  f109 := Tryz.func264.trans (congrArg some (by kernel_rfl))
  f110 := Tryz.func244.trans (congrArg some (by kernel_rfl))
  t0 := Tryz.underlying0
  a0 := Tryz.isAgg0
  z0 := Tryz.sizeOf0
  v0 := Tryz.zeroValue0
  t3 := Tryz.underlying3
  a3 := Tryz.isAgg3
  z3 := Tryz.sizeOf3
  v3 := Tryz.zeroValue3
  t4 := Tryz.underlying4
  a4 := Tryz.isAgg4
  z4 := Tryz.sizeOf4
  v4 := Tryz.zeroValue4
  t9 := Tryz.underlying9
  a9 := Tryz.isAgg9
  z9 := Tryz.sizeOf9
  v9 := Tryz.zeroValue9
  t31 := Tryz.underlying177
  a31 := Tryz.isAgg177
  z31 := Tryz.sizeOf177
  v31 := Tryz.zeroValue177 }
open Go.Lib in
theorem Tryz.slices_Contains_string (b off n c : Nat) (zs : List ByteArray) (x : ByteArray) (w : World) (hz : n ≤ zs.length) (hbig : n ≤ 9223372036854775807) (hc : ∀ j, j < zs.length → w.cell? ⟨b, off + j, none⟩ = some (.string (zs.getD j ByteArray.empty))) :
    Calls Tryz.prog 244 #[.slice (some ⟨b, off, none⟩) n c, .string x] w fun e w' => e = .returned (.bool (Lib.containsS (zs.take n) x)) ∧ w' = w := Any.slices_Contains_string Tryz.lays110 b off n c zs x w hz hbig hc
open Go.Lib in
theorem Tryz.slices_Contains_string_empty (a : Option Addr) (c : Nat) (x : ByteArray) (w : World) :
    Calls Tryz.prog 244 #[.slice a 0 c, .string x] w fun e w' => e = .returned (.bool false) ∧ w' = w := Any.slices_Contains_string_empty Tryz.lays110 a c x w
def Tryz.laysSlK4_ren : Go.Shelf.Ren := ⟨fun | 4 => 192 | n => n, fun | 22 => 33 | 4 => 4 | 5 => 5 | n => n, fun | n => n⟩
theorem Tryz.laysSlK4 : Go.Proofs.SlLaysK.n4 Tryz.prog Tryz.laysSlK4_ren := {
  mixed := by kernel_rfl
  f4 := Tryz.func192.trans (congrArg some (by kernel_rfl))
  t4 := Tryz.underlying4
  a4 := Tryz.isAgg4
  z4 := Tryz.sizeOf4
  v4 := Tryz.zeroValue4
  t22 := Tryz.underlying33
  a22 := Tryz.isAgg33
  z22 := Tryz.sizeOf33
  v22 := Tryz.zeroValue33
  t5 := Tryz.underlying5
  i5 := by kernel_rfl }
open Go.RowKit Go.Lib in
theorem Tryz.bytes_Clone_at (a : Addr) (n c : Nat) (xs : List Int) (w : World) (hx : xs.length = n) (hbig : n ≤ 140737488355328) (hc : ∀ i, i < n → w.cell? (a.add i) = some (.int .u8 (xs.getD i 0))) :
    Calls Tryz.prog 192 #[.slice (some a) n c] w fun e w' => ∃ v', e = .returned v' ∧ w'.ownsRow w.heap.size 5 1 v' n (xs.map (Value.int .u8)) ∧ v' ≠ .slice none 0 0 ∧ Below w.heap.size w w' := Any.bytes_Clone_at Tryz.laysSlK4 a n c xs w hx hbig hc
end Go.Proofs
