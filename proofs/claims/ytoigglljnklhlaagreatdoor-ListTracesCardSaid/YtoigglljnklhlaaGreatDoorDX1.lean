/- Joined. -/
import Derived.Test.YtoigglljnklhlaaGreatDoorProg
import Derived.Shelf.Bytes.SlClone
import Derived.Shelf.Slices.In.SortNone
import Derived.Shelf.Slices.SearchI
import Derived.Shelf.Slices.Turned
import Derived.Shelf.Small.Wraps
import Derived.Shelf.Sort.Plain
import Derived.Shelf.Strconv.Itoa4
import Derived.Shelf.Strings.BuilderCap
import Derived.Shelf.Strings.Explode
import Derived.Shelf.Strings.FieldsAny
import Derived.Shelf.Strings.FieldsFuncGrows
import Derived.Shelf.Strings.OnBuilder
import Derived.Shelf.Strings.Repeat
import Derived.Shelf.Strings.Shaped
import Derived.Shelf.Strings.SplitShaped
import Derived.Shelf.Unicode.ExclAny
import Derived.Shelf.Utf8.RuneCount
set_option maxHeartbeats 8000000
set_option maxRecDepth 100000
namespace Go.Proofs
open Go.Shelf
theorem Tryz.ck {α : Type} {a b : α} {x : Option α} (h : x = some a) (k : a = b := by kernel_rfl) : x = some b := k ▸ h
def Tryz.lays169_ren : Go.Shelf.Ren := ⟨fun | 169 => 40 | n => n, fun | 70 => 75 | 9 => 9 | 0 => 0 | 72 => 77 | 37 => 33 | 127 => 132 | 3 => 3 | 5 => 5 | n => n, fun | n => n⟩
theorem Tryz.lays169 : Go.Proofs.Lays.n169 Tryz.prog Tryz.lays169_ren := {
 mixed:=by kernel_rfl
 f169:=ck func40
 t0:=underlying0
 a0:=isAgg0
 z0:=sizeOf0
 v0:=zeroValue0
 t3:=underlying3
 a3:=isAgg3
 z3:=sizeOf3
 v3:=zeroValue3
 t9:=underlying9
 a9:=isAgg9
 z9:=sizeOf9
 v9:=zeroValue9
 t37:=underlying33
 a37:=isAgg33
 z37:=sizeOf33
 v37:=zeroValue33
 t70:=underlying75
 a70:=isAgg75
 z70:=sizeOf75
 v70:=zeroValue75
 t72:=underlying77
 a72:=isAgg77
 z72:=sizeOf77
 v72:=zeroValue77
 t127:=underlying132
 a127:=isAgg132
 z127:=sizeOf132
 v127:=zeroValue132 }
theorem Tryz.Builder_Extra_169 : Builder.Extra Tryz.prog Tryz.lays169_ren := {
 sizeBuilder:=by kernel_rfl
 liesBuilder:=by kernel_rfl
 t5:=underlying5
 a5:=isAgg5
 z5:=sizeOf5
 v5:=zeroValue5
 infoByte:=by kernel_rfl
 cellsByte:=by kernel_rfl
 sizeByte:=by kernel_rfl
 neB5:=by decide }
open Go.RowKit in
theorem Tryz.Builder_String_any (B b : Nat) (l : List UInt8) (w : World) (h : Lib.IsBuilder 77 5 B b (Lib.byteCells l) w) (hBw : B ≤ w.heap.size) :
    Calls Tryz.prog 40 #[.pointer (some ⟨b, 0, none⟩)] w fun e w' => e = .returned (.string ⟨l.toArray⟩) ∧ Below B w w' := Any.Builder_String_any Tryz.lays169 Tryz.Builder_Extra_169 B b l w h hBw
def Tryz.lays156_ren : Go.Shelf.Ren := ⟨fun | 156 => 109 | 165 => 112 | 166 => 38 | 169 => 40 | 240 => 69 | 241 => 157 | 276 => 108 | 277 => 198 | n => n, fun | 31 => 177 | 9 => 9 | 3 => 3 | 4 => 4 | 0 => 0 | 20 => 20 | 72 => 77 | 76 => 83 | 70 => 75 | 37 => 33 | 75 => 82 | 127 => 132 | 164 => 175 | 5 => 5 | 80 => 85 | n => n, fun | n => n⟩
theorem Tryz.lays156 : Go.Proofs.Lays.n156 Tryz.prog Tryz.lays156_ren := {
 mixed:=by kernel_rfl
 f156:=ck func109
 f165:=ck func112
 f166:=ck func38
 f169:=ck func40
 f240:=ck func69
 f241:=ck func157
 f276:=ck func108
 f277:=ck func198
 t0:=underlying0
 a0:=isAgg0
 z0:=sizeOf0
 v0:=zeroValue0
 t3:=underlying3
 a3:=isAgg3
 z3:=sizeOf3
 v3:=zeroValue3
 t4:=underlying4
 a4:=isAgg4
 z4:=sizeOf4
 v4:=zeroValue4
 t9:=underlying9
 a9:=isAgg9
 z9:=sizeOf9
 v9:=zeroValue9
 t20:=underlying20
 a20:=isAgg20
 z20:=sizeOf20
 v20:=zeroValue20
 t31:=underlying177
 a31:=isAgg177
 z31:=sizeOf177
 v31:=zeroValue177
 t37:=underlying33
 a37:=isAgg33
 z37:=sizeOf33
 v37:=zeroValue33
 t70:=underlying75
 a70:=isAgg75
 z70:=sizeOf75
 v70:=zeroValue75
 t72:=underlying77
 a72:=isAgg77
 z72:=sizeOf77
 v72:=zeroValue77
 t75:=underlying82
 a75:=isAgg82
 z75:=sizeOf82
 v75:=zeroValue82
 t76:=underlying83
 a76:=isAgg83
 z76:=sizeOf83
 v76:=zeroValue83
 t127:=underlying132
 a127:=isAgg132
 z127:=sizeOf132
 v127:=zeroValue132
 t164:=underlying175
 a164:=isAgg175
 z164:=sizeOf175
 v164:=zeroValue175 }
theorem Tryz.Builder_Extra_156 : Builder.Extra Tryz.prog Tryz.lays156_ren := {
 sizeBuilder:=by kernel_rfl
 liesBuilder:=by kernel_rfl
 t5:=underlying5
 a5:=isAgg5
 z5:=sizeOf5
 v5:=zeroValue5
 infoByte:=by kernel_rfl
 cellsByte:=by kernel_rfl
 sizeByte:=by kernel_rfl
 neB5:=by decide }
open Go.RowKit in
theorem Tryz.strings_Join_none (a : Option Addr) (c : Nat) (sep : ByteArray) (w : World) :
    Calls Tryz.prog 109 #[.slice a 0 c, .string sep] w fun e w' => e = .returned (.string ⟨#[]⟩) ∧ w' = w := Any.strings_Join_none Tryz.lays156 Tryz.Builder_Extra_156 a c sep w
open Go.RowKit in
theorem Tryz.strings_Join (bk o c : Nat) (xs : List ByteArray) (sep : ByteArray) (w : World) (hcells : ∀ (j : Nat) x, xs[j]? = some x → w.cell? ⟨bk, o + j, none⟩ = some (.string x)) (hbk : bk < w.heap.size) (hN : xs.length ≤ 140737488355328) (hcap : xs.length ≤ c) (hlen : (Lib.join (xs.map (·.data.toList)) sep.data.toList).length ≤ 140737488355328) :
    Calls Tryz.prog 109 #[.slice (some ⟨bk, o, none⟩) xs.length c, .string sep] w fun e w' => e = .returned (.string ⟨(Lib.join (xs.map (·.data.toList)) sep.data.toList).toArray⟩) ∧ Below w.heap.size w w' := Any.strings_Join Tryz.lays156 Tryz.Builder_Extra_156 bk o c xs sep w hcells hbk hN hcap hlen
def Tryz.lays103_ren : Go.Shelf.Ren := ⟨fun | 103 => 294 | 210 => 304 | 206 => 156 | n => n, fun | 9 => 9 | 4 => 4 | 24 => 309 | 3 => 3 | n => n, fun | n => n⟩
theorem Tryz.lays103 : Go.Proofs.Lays.n103 Tryz.prog Tryz.lays103_ren := {
 mixed:=by kernel_rfl
 f103:=ck func294
 f206:=ck func156
 f210:=ck func304
 t3:=underlying3
 a3:=isAgg3
 z3:=sizeOf3
 v3:=zeroValue3
 t4:=underlying4
 a4:=isAgg4
 z4:=sizeOf4
 v4:=zeroValue4
 t9:=underlying9
 a9:=isAgg9
 z9:=sizeOf9
 v9:=zeroValue9
 t24:=underlying309
 a24:=isAgg309
 z24:=sizeOf309
 v24:=zeroValue309 }
open Go.RowKit in
theorem Tryz.strings_CutPrefix (s p : ByteArray) (w : World) :
    Calls Tryz.prog 294 #[.string s, .string p] w fun e w' => e = .returned (.tuple #[.string ⟨(Lib.trimPrefix s.data.toList p.data.toList).toArray⟩, .bool (Lib.hasPrefix s.data.toList p.data.toList)]) ∧ w' = w := Any.strings_CutPrefix Tryz.lays103 s p w
open Go.RowKit in
theorem Tryz.Builder_String_any_k (B b : Nat) (l : List UInt8) (w : World) (h : Lib.IsBuilderF 77 5 B b (Lib.byteCells l) w) (hBw : B ≤ w.heap.size) :
    Calls Tryz.prog 40 #[.pointer (some ⟨b, 0, none⟩)] w fun e w' => e = .returned (.string ⟨l.toArray⟩) ∧ (Lib.IsBuilderF 77 5 B b (Lib.byteCells l) w' ∧ Below B w w' ∧ Lib.OthersKept 5 (some b) w w') := Any.Builder_String_any_k Tryz.lays169 Tryz.Builder_Extra_169 B b l w h hBw
def Tryz.lays171_ren : Go.Shelf.Ren := ⟨fun | 171 => 94 | 243 => 134 | 246 => 135 | 283 => 170 | 284 => 171 | 285 => 172 | 286 => 173 | 129 => 188 | 317 => 210 | 318 => 211 | 319 => 212 | 320 => 213 | 337 => 247 | 338 => 80 | n => n, fun | 3 => 3 | 9 => 9 | 2 => 2 | 4 => 4 | 171 => 233 | 0 => 0 | 53 => 88 | 37 => 33 | 5 => 5 | 173 => 235 | 212 => 273 | 51 => 217 | 20 => 20 | 213 => 274 | 46 => 118 | 232 => 328 | 233 => 189 | n => n, fun | 17 => 1 | 18 => 4 | 19 => 0 | n => n⟩
theorem Tryz.lays171 : Go.Proofs.Lays.n171 Tryz.prog Tryz.lays171_ren := {
 mixed:=by kernel_rfl
 f129:=ck func188
 f171:=ck func94
 f243:=ck func134
 f246:=ck func135
 f283:=ck func170
 f284:=ck func171
 f285:=ck func172
 f286:=ck func173
 f317:=ck func210
 f318:=ck func211
 f319:=ck func212
 f320:=ck func213
 f337:=ck func247
 f338:=ck func80
 t0:=underlying0
 a0:=isAgg0
 z0:=sizeOf0
 v0:=zeroValue0
 t2:=underlying2
 a2:=isAgg2
 z2:=sizeOf2
 v2:=zeroValue2
 t3:=underlying3
 a3:=isAgg3
 z3:=sizeOf3
 v3:=zeroValue3
 t4:=underlying4
 a4:=isAgg4
 z4:=sizeOf4
 v4:=zeroValue4
 t5:=underlying5
 a5:=isAgg5
 z5:=sizeOf5
 v5:=zeroValue5
 t9:=underlying9
 a9:=isAgg9
 z9:=sizeOf9
 v9:=zeroValue9
 t20:=underlying20
 a20:=isAgg20
 z20:=sizeOf20
 v20:=zeroValue20
 t37:=underlying33
 a37:=isAgg33
 z37:=sizeOf33
 v37:=zeroValue33
 t46:=underlying118
 a46:=isAgg118
 z46:=sizeOf118
 v46:=zeroValue118
 t51:=underlying217
 a51:=isAgg217
 z51:=sizeOf217
 v51:=zeroValue217
 t53:=underlying88
 a53:=isAgg88
 z53:=sizeOf88
 v53:=zeroValue88
 t171:=underlying233
 a171:=isAgg233
 z171:=sizeOf233
 v171:=zeroValue233
 t173:=underlying235
 a173:=isAgg235
 z173:=sizeOf235
 v173:=zeroValue235
 t212:=underlying273
 a212:=isAgg273
 z212:=sizeOf273
 v212:=zeroValue273
 t213:=underlying274
 a213:=isAgg274
 z213:=sizeOf274
 t232:=underlying328
 a232:=isAgg328
 z232:=sizeOf328
 v232:=zeroValue328
 t233:=underlying189
 a233:=isAgg189
 z233:=sizeOf189
 v233:=zeroValue189
 g17:=by kernel_rfl
 g18:=by kernel_rfl
 g19:=by kernel_rfl }
open Go.RowKit Go.Sort Go.Lib in
theorem Tryz.strconv_Itoa_small (i : Nat) (hi : i < 100) (w : World) :
    Calls Tryz.prog 94 #[.int .i64 i] w fun e w' => e = .returned (.string ⟨(Lib.decDigits i).toArray⟩) ∧ w' = w := Any.strconv_Itoa_small Tryz.lays171 i hi w
def Tryz.lays219_ren : Go.Shelf.Ren := ⟨fun | 219 => 298 | 217 => 308 | 225 => 309 | 224 => 310 | 267 => 311 | 266 => 315 | 314 => 316 | n => n, fun | 9 => 9 | 3 => 3 | 4 => 4 | 5 => 5 | 46 => 118 | 146 => 218 | 51 => 217 | n => n, fun | 1 => 2 | n => n⟩
theorem Tryz.lays219 : Go.Proofs.Lays.n219 Tryz.prog Tryz.lays219_ren := {
 mixed:=by kernel_rfl
 f217:=ck func308
 f219:=ck func298
 f224:=ck func310
 f225:=ck func309
 f266:=ck func315
 f267:=ck func311
 f314:=ck func316
 t3:=underlying3
 a3:=isAgg3
 z3:=sizeOf3
 v3:=zeroValue3
 t4:=underlying4
 a4:=isAgg4
 z4:=sizeOf4
 v4:=zeroValue4
 t5:=underlying5
 a5:=isAgg5
 z5:=sizeOf5
 v5:=zeroValue5
 t9:=underlying9
 a9:=isAgg9
 z9:=sizeOf9
 v9:=zeroValue9
 t46:=underlying118
 a46:=isAgg118
 z46:=sizeOf118
 v46:=zeroValue118
 t51:=underlying217
 a51:=isAgg217
 z51:=sizeOf217
 v51:=zeroValue217
 t146:=underlying218
 a146:=isAgg218
 z146:=sizeOf218
 v146:=zeroValue218
 g1:=by kernel_rfl }
open Go.RowKit Go.Lib in
theorem Tryz.stringslite_Index_one (s : ByteArray) (c : UInt8) (w : World) :
    Calls Tryz.prog 298 #[.string s, .string ⟨#[c]⟩] w fun e w' => e = .returned (.int .i64 (Lib.indexByte s.data.toList c)) ∧ w' = w := Any.stringslite_Index_one Tryz.lays219 s c w
def Tryz.lays144_ren : Go.Shelf.Ren := ⟨fun | 144 => 255 | 143 => 288 | 219 => 298 | 217 => 308 | 225 => 309 | 224 => 310 | 267 => 311 | 266 => 315 | 314 => 316 | n => n, fun | 9 => 9 | 4 => 4 | 3 => 3 | 5 => 5 | 46 => 118 | 146 => 218 | 51 => 217 | n => n, fun | 1 => 2 | n => n⟩
theorem Tryz.lays144 : Go.Proofs.Lays.n144 Tryz.prog Tryz.lays144_ren := {
 mixed:=by kernel_rfl
 f143:=ck func288
 f144:=ck func255
 f217:=ck func308
 f219:=ck func298
 f224:=ck func310
 f225:=ck func309
 f266:=ck func315
 f267:=ck func311
 f314:=ck func316
 t3:=underlying3
 a3:=isAgg3
 z3:=sizeOf3
 v3:=zeroValue3
 t4:=underlying4
 a4:=isAgg4
 z4:=sizeOf4
 v4:=zeroValue4
 t5:=underlying5
 a5:=isAgg5
 z5:=sizeOf5
 v5:=zeroValue5
 t9:=underlying9
 a9:=isAgg9
 z9:=sizeOf9
 v9:=zeroValue9
 t46:=underlying118
 a46:=isAgg118
 z46:=sizeOf118
 v46:=zeroValue118
 t51:=underlying217
 a51:=isAgg217
 z51:=sizeOf217
 v51:=zeroValue217
 t146:=underlying218
 a146:=isAgg218
 z146:=sizeOf218
 v146:=zeroValue218
 g1:=by kernel_rfl }
open Go.RowKit Go.Lib in
theorem Tryz.strings_Contains_one (s : ByteArray) (c : UInt8) (w : World) :
    Calls Tryz.prog 255 #[.string s, .string ⟨#[c]⟩] w fun e w' => e = .returned (.bool (decide (0 ≤ Lib.indexByte s.data.toList c))) ∧ w' = w := Any.strings_Contains_one Tryz.lays144 s c w
def Tryz.lays189_ren : Go.Shelf.Ren := ⟨fun | 189 => 101 | 125 => 146 | 257 => 145 | 128 => 187 | 129 => 188 | 294 => 178 | 295 => 179 | 296 => 180 | 297 => 181 | 298 => 182 | 299 => 183 | 216 => 184 | 300 => 185 | 301 => 186 | 328 => 216 | 329 => 217 | 330 => 218 | 331 => 219 | 332 => 220 | 215 => 221 | 343 => 248 | n => n, fun | 28 => 44 | 3 => 3 | 46 => 118 | 0 => 0 | 51 => 217 | 53 => 88 | 4 => 4 | 183 => 241 | 182 => 240 | 131 => 170 | 5 => 5 | 9 => 9 | 218 => 277 | 222 => 281 | 228 => 306 | 229 => 39 | n => n, fun | n => n⟩
theorem Tryz.lays189 : Go.Proofs.Lays.n189 Tryz.prog Tryz.lays189_ren := {
 mixed:=by kernel_rfl
 f125:=ck func146
 f128:=ck func187
 f129:=ck func188
 f189:=ck func101
 f215:=ck func221
 f216:=ck func184
 f257:=ck func145
 f294:=ck func178
 f295:=ck func179
 f296:=ck func180
 f297:=ck func181
 f298:=ck func182
 f299:=ck func183
 f300:=ck func185
 f301:=ck func186
 f328:=ck func216
 f329:=ck func217
 f330:=ck func218
 f331:=ck func219
 f332:=ck func220
 f343:=ck func248
 t0:=underlying0
 a0:=isAgg0
 z0:=sizeOf0
 v0:=zeroValue0
 t3:=underlying3
 a3:=isAgg3
 z3:=sizeOf3
 v3:=zeroValue3
 t4:=underlying4
 a4:=isAgg4
 z4:=sizeOf4
 v4:=zeroValue4
 t5:=underlying5
 a5:=isAgg5
 z5:=sizeOf5
 v5:=zeroValue5
 t9:=underlying9
 a9:=isAgg9
 z9:=sizeOf9
 v9:=zeroValue9
 t28:=underlying44
 a28:=isAgg44
 z28:=sizeOf44
 v28:=zeroValue44
 t46:=underlying118
 a46:=isAgg118
 z46:=sizeOf118
 v46:=zeroValue118
 t51:=underlying217
 a51:=isAgg217
 z51:=sizeOf217
 v51:=zeroValue217
 t53:=underlying88
 a53:=isAgg88
 z53:=sizeOf88
 v53:=zeroValue88
 t131:=underlying170
 a131:=isAgg170
 z131:=sizeOf170
 v131:=zeroValue170
 t182:=underlying240
 a182:=isAgg240
 z182:=sizeOf240
 v182:=zeroValue240
 t183:=underlying241
 a183:=isAgg241
 z183:=sizeOf241
 v183:=zeroValue241
 t218:=underlying277
 a218:=isAgg277
 z218:=sizeOf277
 v218:=zeroValue277
 t222:=underlying281
 a222:=isAgg281
 z222:=sizeOf281
 v222:=zeroValue281
 t228:=underlying306
 a228:=isAgg306
 z228:=sizeOf306
 v228:=zeroValue306
 t229:=underlying39
 a229:=isAgg39
 z229:=sizeOf39
 v229:=zeroValue39 }
open Go.Sort Go.RowKit in
theorem Tryz.slices_Sort_int (blk off cap : Nat) (zs : List Int) (w : World) (hH : Holds (Value.int .i64) w blk off zs.toArray) (hblk : blk < w.heap.size) (hsz : zs.length < 4611686018427387904) :
    Calls Tryz.prog 101 #[.slice (some ⟨blk, off, none⟩) zs.length cap] w fun e w' =>
      e = .returned (.tuple #[]) ∧ ∃ n os, w' = grow (putRow (Value.int .i64) (Sort.ahead w n) blk off (zs.mergeSort fun x y => decide (x ≤ y)).toArray) os := Any.slices_Sort_int Tryz.lays189 blk off cap zs w hH hblk hsz
def Tryz.lays102_ren : Go.Shelf.Ren := ⟨fun | 102 => 116 | 209 => 165 | 207 => 208 | n => n, fun | 9 => 9 | 4 => 4 | 3 => 3 | n => n, fun | n => n⟩
theorem Tryz.lays102 : Go.Proofs.Lays.n102 Tryz.prog Tryz.lays102_ren := {
 mixed:=by kernel_rfl
 f102:=ck func116
 f207:=ck func208
 f209:=ck func165
 t3:=underlying3
 a3:=isAgg3
 z3:=sizeOf3
 v3:=zeroValue3
 t4:=underlying4
 a4:=isAgg4
 z4:=sizeOf4
 v4:=zeroValue4
 t9:=underlying9
 a9:=isAgg9
 z9:=sizeOf9
 v9:=zeroValue9 }
open Go.RowKit Go.Lib in
theorem Tryz.strings_TrimSuffix (s p : ByteArray) (w : World) (hs : s.size ≤ 9223372036854775807) :
    Calls Tryz.prog 116 #[.string s, .string p] w fun e w' => e = .returned (.string ⟨(Lib.trimSuffix s.data.toList p.data.toList).toArray⟩) ∧ w' = w := Any.strings_TrimSuffix Tryz.lays102 s p w hs
def Tryz.lays146_ren : Go.Shelf.Ren := ⟨fun | 146 => 275 | 221 => 293 | 268 => 302 | 138 => 303 | 143 => 288 | 195 => 312 | 197 => 313 | 218 => 314 | 219 => 298 | 260 => 317 | 217 => 308 | 225 => 309 | 224 => 310 | 267 => 311 | 266 => 315 | 314 => 316 | n => n, fun | 9 => 9 | 31 => 177 | 3 => 3 | 4 => 4 | 0 => 0 | 105 => 364 | 21 => 21 | 5 => 5 | 46 => 118 | 119 => 325 | 139 => 370 | 138 => 369 | 146 => 218 | 51 => 217 | n => n, fun | 1 => 2 | 3 => 6 | 4 => 7 | n => n⟩
theorem Tryz.lays146 : Go.Proofs.Lays.n146 Tryz.prog Tryz.lays146_ren := {
 mixed:=by kernel_rfl
 f138:=ck func303
 f143:=ck func288
 f146:=ck func275
 f195:=ck func312
 f197:=ck func313
 f217:=ck func308
 f218:=ck func314
 f219:=ck func298
 f221:=ck func293
 f224:=ck func310
 f225:=ck func309
 f260:=ck func317
 f266:=ck func315
 f267:=ck func311
 f268:=ck func302
 f314:=ck func316
 t0:=underlying0
 a0:=isAgg0
 z0:=sizeOf0
 v0:=zeroValue0
 t3:=underlying3
 a3:=isAgg3
 z3:=sizeOf3
 v3:=zeroValue3
 t4:=underlying4
 a4:=isAgg4
 z4:=sizeOf4
 v4:=zeroValue4
 t5:=underlying5
 a5:=isAgg5
 z5:=sizeOf5
 v5:=zeroValue5
 t9:=underlying9
 a9:=isAgg9
 z9:=sizeOf9
 v9:=zeroValue9
 t21:=underlying21
 a21:=isAgg21
 z21:=sizeOf21
 v21:=zeroValue21
 t31:=underlying177
 a31:=isAgg177
 z31:=sizeOf177
 v31:=zeroValue177
 t46:=underlying118
 a46:=isAgg118
 z46:=sizeOf118
 v46:=zeroValue118
 t51:=underlying217
 a51:=isAgg217
 z51:=sizeOf217
 v51:=zeroValue217
 t105:=underlying364
 a105:=isAgg364
 z105:=sizeOf364
 v105:=zeroValue364
 t119:=underlying325
 a119:=isAgg325
 z119:=sizeOf325
 t138:=underlying369
 a138:=isAgg369
 z138:=sizeOf369
 v138:=zeroValue369
 t139:=underlying370
 a139:=isAgg370
 z139:=sizeOf370
 v139:=zeroValue370
 t146:=underlying218
 a146:=isAgg218
 z146:=sizeOf218
 v146:=zeroValue218
 g1:=by kernel_rfl
 g3:=by kernel_rfl
 g4:=by kernel_rfl }
open Go.RowKit Go.Lib in
theorem Tryz.strings_Split (s sep : ByteArray) (m : Int) (w : World) (hs : s.size < 4294967281) (hm : w.cell? ⟨2, 0, none⟩ = some (.int .i64 m)) (h1 : 1 ≤ sep.size) :
    Calls Tryz.prog 275 #[.string s, .string sep] w fun e w' =>
      e = .returned (.slice (some ⟨w.heap.size, 0, none⟩) (Lib.countB s sep + 1) (Lib.countB s sep + 1)) ∧ w' = w.alloc (.cells ((Lib.splitB sep 0 (Lib.countB s sep) s).map Value.string).toArray 9) := Any.strings_Split Tryz.lays146 (by kernel_rfl) s sep m w hs hm h1
def Tryz.lays157_ren : Go.Shelf.Ren := ⟨fun | 157 => 245 | 229 => 265 | 199 => 266 | 261 => 291 | 311 => 300 | 312 => 301 | n => n, fun | 9 => 9 | 31 => 177 | 3 => 3 | 5 => 5 | 4 => 4 | 119 => 325 | 0 => 0 | 40 => 327 | 152 => 337 | 21 => 21 | 154 => 339 | 51 => 217 | 141 => 341 | 196 => 349 | 193 => 346 | 198 => 352 | 49 => 350 | 194 => 347 | 201 => 355 | 226 => 361 | 46 => 118 | 227 => 362 | n => n, fun | 0 => 3 | 6 => 5 | n => n⟩
theorem Tryz.lays157 : Go.Proofs.Lays.n157 Tryz.prog Tryz.lays157_ren := {
 mixed:=by kernel_rfl
 f157:=ck func245
 f199:=ck func266
 f229:=ck func265
 f261:=ck func291
 f311:=ck func300
 f312:=ck func301
 t0:=underlying0
 a0:=isAgg0
 z0:=sizeOf0
 v0:=zeroValue0
 t3:=underlying3
 a3:=isAgg3
 z3:=sizeOf3
 v3:=zeroValue3
 t4:=underlying4
 a4:=isAgg4
 z4:=sizeOf4
 v4:=zeroValue4
 t5:=underlying5
 a5:=isAgg5
 z5:=sizeOf5
 v5:=zeroValue5
 t9:=underlying9
 a9:=isAgg9
 z9:=sizeOf9
 v9:=zeroValue9
 t21:=underlying21
 a21:=isAgg21
 z21:=sizeOf21
 v21:=zeroValue21
 t31:=underlying177
 a31:=isAgg177
 z31:=sizeOf177
 v31:=zeroValue177
 t40:=underlying327
 a40:=isAgg327
 z40:=sizeOf327
 v40:=zeroValue327
 t46:=underlying118
 a46:=isAgg118
 z46:=sizeOf118
 v46:=zeroValue118
 t49:=underlying350
 a49:=isAgg350
 z49:=sizeOf350
 v49:=zeroValue350
 t51:=underlying217
 a51:=isAgg217
 z51:=sizeOf217
 v51:=zeroValue217
 t119:=underlying325
 a119:=isAgg325
 z119:=sizeOf325
 t141:=underlying341
 a141:=isAgg341
 z141:=sizeOf341
 v141:=zeroValue341
 t152:=underlying337
 a152:=isAgg337
 z152:=sizeOf337
 v152:=zeroValue337
 t154:=underlying339
 a154:=isAgg339
 z154:=sizeOf339
 v154:=zeroValue339
 t193:=underlying346
 a193:=isAgg346
 z193:=sizeOf346
 v193:=zeroValue346
 t194:=underlying347
 a194:=isAgg347
 z194:=sizeOf347
 v194:=zeroValue347
 t196:=underlying349
 a196:=isAgg349
 z196:=sizeOf349
 v196:=zeroValue349
 t198:=underlying352
 a198:=isAgg352
 z198:=sizeOf352
 v198:=zeroValue352
 t201:=underlying355
 a201:=isAgg355
 z201:=sizeOf355
 v201:=zeroValue355
 t226:=underlying361
 a226:=isAgg361
 z226:=sizeOf361
 v226:=zeroValue361
 t227:=underlying362
 a227:=isAgg362
 z227:=sizeOf362
 v227:=zeroValue362
 g0:=by kernel_rfl
 g6:=by kernel_rfl }
open Go.RowKit Go.Lib in
theorem Tryz.strings_Fields (s : ByteArray) (w : World) (hs : s.size < 4294967281) (hascii : ∀ (j : Nat) b, s.data.toList[j]? = some b → b.toNat < 128) (htab : Lib.TabIs Tryz.prog w "strings.asciiSpace" .u8 Lib.asciiSpaceTab) :
    Calls Tryz.prog 245 #[.string s] w fun e w' =>
      e = .returned (.slice (some ⟨w.heap.size, 0, none⟩) (Lib.fields s.data.toList).length (Lib.fields s.data.toList).length) ∧ w' = w.alloc (.cells ((Lib.fields s.data.toList).map fun l => Value.string ⟨l.toArray⟩).toArray 9) := Any.strings_Fields Tryz.lays157 (by kernel_rfl) (by kernel_rfl) s w hs hascii htab
def Tryz.lays105_ren : Go.Shelf.Ren := ⟨fun | 105 => 74 | 212 => 110 | 99 => 111 | 165 => 112 | 166 => 38 | 170 => 113 | 169 => 40 | 263 => 154 | 264 => 155 | 206 => 156 | 240 => 69 | 241 => 157 | 276 => 108 | 277 => 198 | n => n, fun | 9 => 9 | 3 => 3 | 4 => 4 | 20 => 20 | 0 => 0 | 46 => 118 | 109 => 179 | 5 => 5 | 72 => 77 | 76 => 83 | 51 => 217 | 146 => 218 | 53 => 88 | 148 => 220 | 70 => 75 | 37 => 33 | 75 => 82 | 127 => 132 | 164 => 175 | 80 => 85 | n => n, fun | n => n⟩
theorem Tryz.lays105 : Go.Proofs.Lays.n105 Tryz.prog Tryz.lays105_ren := {
 mixed:=by kernel_rfl
 f99:=ck func111
 f105:=ck func74
 f165:=ck func112
 f166:=ck func38
 f169:=ck func40
 f170:=ck func113
 f206:=ck func156
 f212:=ck func110
 f240:=ck func69
 f241:=ck func157
 f263:=ck func154
 f264:=ck func155
 f276:=ck func108
 f277:=ck func198
 t0:=underlying0
 a0:=isAgg0
 z0:=sizeOf0
 v0:=zeroValue0
 t3:=underlying3
 a3:=isAgg3
 z3:=sizeOf3
 v3:=zeroValue3
 t4:=underlying4
 a4:=isAgg4
 z4:=sizeOf4
 v4:=zeroValue4
 t5:=underlying5
 a5:=isAgg5
 z5:=sizeOf5
 v5:=zeroValue5
 t9:=underlying9
 a9:=isAgg9
 z9:=sizeOf9
 v9:=zeroValue9
 t20:=underlying20
 a20:=isAgg20
 z20:=sizeOf20
 v20:=zeroValue20
 t37:=underlying33
 a37:=isAgg33
 z37:=sizeOf33
 v37:=zeroValue33
 t46:=underlying118
 a46:=isAgg118
 z46:=sizeOf118
 v46:=zeroValue118
 t51:=underlying217
 a51:=isAgg217
 z51:=sizeOf217
 v51:=zeroValue217
 t53:=underlying88
 a53:=isAgg88
 z53:=sizeOf88
 v53:=zeroValue88
 t70:=underlying75
 a70:=isAgg75
 z70:=sizeOf75
 v70:=zeroValue75
 t72:=underlying77
 a72:=isAgg77
 z72:=sizeOf77
 v72:=zeroValue77
 t75:=underlying82
 a75:=isAgg82
 z75:=sizeOf82
 v75:=zeroValue82
 t76:=underlying83
 a76:=isAgg83
 z76:=sizeOf83
 v76:=zeroValue83
 t109:=underlying179
 a109:=isAgg179
 z109:=sizeOf179
 v109:=zeroValue179
 t127:=underlying132
 a127:=isAgg132
 z127:=sizeOf132
 v127:=zeroValue132
 t146:=underlying218
 a146:=isAgg218
 z146:=sizeOf218
 v146:=zeroValue218
 t148:=underlying220
 a148:=isAgg220
 z148:=sizeOf220
 v148:=zeroValue220
 t164:=underlying175
 a164:=isAgg175
 z164:=sizeOf175
 v164:=zeroValue175 }
theorem Tryz.Builder_Extra_105 : Builder.Extra Tryz.prog Tryz.lays105_ren := {
 sizeBuilder:=by kernel_rfl
 liesBuilder:=by kernel_rfl
 t5:=underlying5
 a5:=isAgg5
 z5:=sizeOf5
 v5:=zeroValue5
 infoByte:=by kernel_rfl
 cellsByte:=by kernel_rfl
 sizeByte:=by kernel_rfl
 neB5:=by decide }
open Go.RowKit Go.Lib in
theorem Tryz.strings_Repeat_main (s : ByteArray) (c : Nat) (w : World) (hc2 : 2 ≤ c) (hc : c ≤ 9223372036854775807) (hlen : s.size * c ≤ 140737488355328) (h0 : 0 < s.size) :
    Calls Tryz.prog 74 #[.string s, .int .i64 c] w fun e w' => e = .returned (.string ⟨(Lib.repeatL s.data.toList c).toArray⟩) ∧ Below w.heap.size w w' := Any.strings_Repeat_main Tryz.lays105 Tryz.Builder_Extra_105 s c w hc2 hc hlen h0
def Tryz.lays107_ren : Go.Shelf.Ren := ⟨fun | 107 => 150 | 108 => 191 | n => n, fun | 28 => 44 | 3 => 3 | 4 => 4 | 0 => 0 | n => n, fun | n => n⟩
theorem Tryz.lays107 : Go.Proofs.Lays.n107 Tryz.prog Tryz.lays107_ren := {
 mixed:=by kernel_rfl
 f107:=ck func150
 f108:=ck func191
 t0:=underlying0
 a0:=isAgg0
 z0:=sizeOf0
 v0:=zeroValue0
 t3:=underlying3
 a3:=isAgg3
 z3:=sizeOf3
 v3:=zeroValue3
 t4:=underlying4
 a4:=isAgg4
 z4:=sizeOf4
 v4:=zeroValue4
 t28:=underlying44
 a28:=isAgg44
 z28:=sizeOf44
 v28:=zeroValue44 }
open Go.Lib in
theorem Tryz.slices_Contains_int (b off n c : Nat) (zs : List Int) (x : Int) (w : World) (hz : n ≤ zs.length) (hbig : n ≤ 9223372036854775807) (hc : ∀ j, j < zs.length → w.cell? ⟨b, off + j, none⟩ = some (.int .i64 (zs.getD j 0))) :
    Calls Tryz.prog 150 #[.slice (some ⟨b, off, none⟩) n c, .int .i64 x] w fun e w' => e = .returned (.bool ((zs.take n).contains x)) ∧ w' = w := Any.slices_Contains_int Tryz.lays107 b off n c zs x w hz hbig hc
def Tryz.lays110_ren : Go.Shelf.Ren := ⟨fun | 110 => 244 | 109 => 264 | n => n, fun | 31 => 177 | 9 => 9 | 4 => 4 | 3 => 3 | 0 => 0 | n => n, fun | n => n⟩
theorem Tryz.lays110 : Go.Proofs.Lays.n110 Tryz.prog Tryz.lays110_ren := {
 mixed:=by kernel_rfl
 f109:=ck func264
 f110:=ck func244
 t0:=underlying0
 a0:=isAgg0
 z0:=sizeOf0
 v0:=zeroValue0
 t3:=underlying3
 a3:=isAgg3
 z3:=sizeOf3
 v3:=zeroValue3
 t4:=underlying4
 a4:=isAgg4
 z4:=sizeOf4
 v4:=zeroValue4
 t9:=underlying9
 a9:=isAgg9
 z9:=sizeOf9
 v9:=zeroValue9
 t31:=underlying177
 a31:=isAgg177
 z31:=sizeOf177
 v31:=zeroValue177 }
open Go.Lib in
theorem Tryz.slices_Contains_string (b off n c : Nat) (zs : List ByteArray) (x : ByteArray) (w : World) (hz : n ≤ zs.length) (hbig : n ≤ 9223372036854775807) (hc : ∀ j, j < zs.length → w.cell? ⟨b, off + j, none⟩ = some (.string (zs.getD j ByteArray.empty))) :
    Calls Tryz.prog 244 #[.slice (some ⟨b, off, none⟩) n c, .string x] w fun e w' => e = .returned (.bool (Lib.containsS (zs.take n) x)) ∧ w' = w := Any.slices_Contains_string Tryz.lays110 b off n c zs x w hz hbig hc
open Go.Lib in
theorem Tryz.slices_Contains_string_empty (a : Option Addr) (c : Nat) (x : ByteArray) (w : World) :
    Calls Tryz.prog 244 #[.slice a 0 c, .string x] w fun e w' => e = .returned (.bool false) ∧ w' = w := Any.slices_Contains_string_empty Tryz.lays110 a c x w
open Go.RowKit Go.Sort in
theorem Tryz.slices_Sort_int_none (p : Option Addr) (cap : Nat) (w : World) :
    Calls Tryz.prog 101 #[.slice p 0 cap] w fun e w' => e = .returned (.tuple #[]) ∧ w' = w := Any.slices_Sort_int_none Tryz.lays189 p cap w
def Tryz.laysSlK4_ren : Go.Shelf.Ren := ⟨fun | 4 => 192 | n => n, fun | 22 => 33 | 4 => 4 | 5 => 5 | n => n, fun | n => n⟩
theorem Tryz.laysSlK4 : Go.Proofs.SlLaysK.n4 Tryz.prog Tryz.laysSlK4_ren := {
 mixed:=by kernel_rfl
 f4:=ck func192
 t4:=underlying4
 a4:=isAgg4
 z4:=sizeOf4
 v4:=zeroValue4
 t22:=underlying33
 a22:=isAgg33
 z22:=sizeOf33
 v22:=zeroValue33
 t5:=underlying5
 i5:=by kernel_rfl }
open Go.RowKit Go.Lib in
theorem Tryz.bytes_Clone_at (a : Addr) (n c : Nat) (xs : List Int) (w : World) (hx : xs.length = n) (hbig : n ≤ 140737488355328) (hc : ∀ i, i < n → w.cell? (a.add i) = some (.int .u8 (xs.getD i 0))) :
    Calls Tryz.prog 192 #[.slice (some a) n c] w fun e w' => ∃ v', e = .returned v' ∧ w'.ownsRow w.heap.size 5 1 v' n (xs.map (Value.int .u8)) ∧ v' ≠ .slice none 0 0 ∧ Below w.heap.size w w' := Any.bytes_Clone_at Tryz.laysSlK4 a n c xs w hx hbig hc
end Go.Proofs
