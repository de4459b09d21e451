/- Joined texts: Shelf. -/
import Derived.Test.YtkldoojonnkfgaaGreatDoorProg
import Derived.Shelf.Slices.Cells
import Derived.Shelf.Slices.Empties2
import Derived.Shelf.Slices.In.SortNone
import Derived.Shelf.Slices.Turned
import Derived.Shelf.Small.Strs
import Derived.Shelf.Small.Wraps
import Derived.Shelf.Sort.Plain
import Derived.Shelf.Strconv.Itoa4
import Derived.Shelf.Strings.CaseAny
import Derived.Shelf.Strings.Explode
import Derived.Shelf.Strings.FieldsAny
import Derived.Shelf.Strings.FieldsFuncGrows
import Derived.Shelf.Strings.MapGrows
import Derived.Shelf.Strings.Shaped
import Derived.Shelf.Strings.SplitShaped
import Derived.Shelf.Unicode.ExclAny
import Derived.Shelf.Utf8.AppendRune
import Derived.Shelf.Utf8.AppendRunePlain
import Derived.Shelf.Utf8.RuneCount
namespace Go.Proofs
open Go.Shelf
def Tryz.lays169_ren : Go.Shelf.Ren := ⟨fun | 169 => 87 | n => n, fun | 70 => 157 | 9 => 9 | 0 => 0 | 72 => 159 | 37 => 79 | 127 => 253 | 3 => 3 | 5 => 5 | n => n, fun | n => n⟩
theorem Tryz.lays169 : Go.Proofs.Lays.n169 Tryz.prog Tryz.lays169_ren := {
  mixed := by kernel_rfl
  f169 := Tryz.func87.trans (congrArg some (by kernel_rfl))
  t0 := Tryz.underlying0
  a0 := Tryz.isAgg0
  z0 := Tryz.sizeOf0
  v0 := Tryz.zeroValue0
  t3 := Tryz.underlying3
  a3 := Tryz.isAgg3
  z3 := Tryz.sizeOf3
  v3 := Tryz.zeroValue3
  t9 := Tryz.underlying9
  a9 := Tryz.isAgg9
  z9 := Tryz.sizeOf9
  v9 := Tryz.zeroValue9
  t37 := Tryz.underlying79
  a37 := Tryz.isAgg79
  z37 := Tryz.sizeOf79
  v37 := Tryz.zeroValue79
  t70 := Tryz.underlying157
  a70 := Tryz.isAgg157
  z70 := Tryz.sizeOf157
  v70 := Tryz.zeroValue157
  t72 := Tryz.underlying159
  a72 := Tryz.isAgg159
  z72 := Tryz.sizeOf159
  v72 := Tryz.zeroValue159
  t127 := Tryz.underlying253
  a127 := Tryz.isAgg253
  z127 := Tryz.sizeOf253
  v127 := Tryz.zeroValue253 }
theorem Tryz.Builder_Extra_169 : Builder.Extra Tryz.prog Tryz.lays169_ren := {
  sizeBuilder := by kernel_rfl
  liesBuilder := by kernel_rfl
  t5 := Tryz.underlying5
  a5 := Tryz.isAgg5
  z5 := Tryz.sizeOf5
  v5 := Tryz.zeroValue5
  infoByte := by kernel_rfl
  cellsByte := by kernel_rfl
  sizeByte := by kernel_rfl
  neB5 := by decide }
open Go.RowKit in
theorem Tryz.Builder_String_any (B b : Nat) (l : List UInt8) (w : World) (h : Lib.IsBuilder 159 5 B b (Lib.byteCells l) w) (hBw : B ≤ w.heap.size) :
    Calls Tryz.prog 87 #[.pointer (some ⟨b, 0, none⟩)] w fun e w' => e = .returned (.string ⟨l.toArray⟩) ∧ Below B w w' := Any.Builder_String_any Tryz.lays169 Tryz.Builder_Extra_169 B b l w h hBw
def Tryz.lays156_ren : Go.Shelf.Ren := ⟨fun | 156 => 70 | 165 => 84 | 166 => 85 | 169 => 87 | 240 => 160 | 241 => 161 | 276 => 243 | 277 => 244 | n => n, fun | 31 => 72 | 9 => 9 | 3 => 3 | 4 => 4 | 0 => 0 | 20 => 20 | 72 => 159 | 76 => 163 | 70 => 157 | 37 => 79 | 75 => 162 | 127 => 253 | 164 => 317 | 5 => 5 | 80 => 166 | n => n, fun | n => n⟩
theorem Tryz.lays156 : Go.Proofs.Lays.n156 Tryz.prog Tryz.lays156_ren := {
  mixed := by kernel_rfl
  f156 := Tryz.func70.trans (congrArg some (by kernel_rfl))
  f165 := Tryz.func84.trans (congrArg some (by kernel_rfl))
  f166 := Tryz.func85.trans (congrArg some (by kernel_rfl))
  f169 := Tryz.func87.trans (congrArg some (by kernel_rfl))
  f240 := Tryz.func160.trans (congrArg some (by kernel_rfl))
  f241 := Tryz.func161.trans (congrArg some (by kernel_rfl))
  f276 := Tryz.func243.trans (congrArg some (by kernel_rfl))
  f277 := Tryz.func244.trans (congrArg some (by kernel_rfl))
  t0 := Tryz.underlying0
  a0 := Tryz.isAgg0
  z0 := Tryz.sizeOf0
  v0 := Tryz.zeroValue0
  t3 := Tryz.underlying3
  a3 := Tryz.isAgg3
  z3 := Tryz.sizeOf3
  v3 := Tryz.zeroValue3
  t4 := Tryz.underlying4
  a4 := Tryz.isAgg4
  z4 := Tryz.sizeOf4
  v4 := Tryz.zeroValue4
  t9 := Tryz.underlying9
  a9 := Tryz.isAgg9
  z9 := Tryz.sizeOf9
  v9 := Tryz.zeroValue9
  t20 := Tryz.underlying20
  a20 := Tryz.isAgg20
  z20 := Tryz.sizeOf20
  v20 := Tryz.zeroValue20
  t31 := Tryz.underlying72
  a31 := Tryz.isAgg72
  z31 := Tryz.sizeOf72
  v31 := Tryz.zeroValue72
  t37 := Tryz.underlying79
  a37 := Tryz.isAgg79
  z37 := Tryz.sizeOf79
  v37 := Tryz.zeroValue79
  t70 := Tryz.underlying157
  a70 := Tryz.isAgg157
  z70 := Tryz.sizeOf157
  v70 := Tryz.zeroValue157
  t72 := Tryz.underlying159
  a72 := Tryz.isAgg159
  z72 := Tryz.sizeOf159
  v72 := Tryz.zeroValue159
  t75 := Tryz.underlying162
  a75 := Tryz.isAgg162
  z75 := Tryz.sizeOf162
  v75 := Tryz.zeroValue162
  t76 := Tryz.underlying163
  a76 := Tryz.isAgg163
  z76 := Tryz.sizeOf163
  v76 := Tryz.zeroValue163
  t127 := Tryz.underlying253
  a127 := Tryz.isAgg253
  z127 := Tryz.sizeOf253
  v127 := Tryz.zeroValue253
  t164 := Tryz.underlying317
  a164 := Tryz.isAgg317
  z164 := Tryz.sizeOf317
  v164 := Tryz.zeroValue317 }
theorem Tryz.Builder_Extra_156 : Builder.Extra Tryz.prog Tryz.lays156_ren := {
  sizeBuilder := by kernel_rfl
  liesBuilder := by kernel_rfl
  t5 := Tryz.underlying5
  a5 := Tryz.isAgg5
  z5 := Tryz.sizeOf5
  v5 := Tryz.zeroValue5
  infoByte := by kernel_rfl
  cellsByte := by kernel_rfl
  sizeByte := by kernel_rfl
  neB5 := by decide }
open Go.RowKit in
theorem Tryz.strings_Join_none (a : Option Addr) (c : Nat) (sep : ByteArray) (w : World) :
    Calls Tryz.prog 70 #[.slice a 0 c, .string sep] w fun e w' => e = .returned (.string ⟨#[]⟩) ∧ w' = w := Any.strings_Join_none Tryz.lays156 Tryz.Builder_Extra_156 a c sep w
open Go.RowKit in
theorem Tryz.strings_Join (bk o c : Nat) (xs : List ByteArray) (sep : ByteArray) (w : World) (hcells : ∀ (j : Nat) x, xs[j]? = some x → w.cell? ⟨bk, o + j, none⟩ = some (.string x)) (hbk : bk < w.heap.size) (hN : xs.length ≤ 140737488355328) (hcap : xs.length ≤ c) (hlen : (Lib.join (xs.map (·.data.toList)) sep.data.toList).length ≤ 140737488355328) :
    Calls Tryz.prog 70 #[.slice (some ⟨bk, o, none⟩) xs.length c, .string sep] w fun e w' => e = .returned (.string ⟨(Lib.join (xs.map (·.data.toList)) sep.data.toList).toArray⟩) ∧ Below w.heap.size w w' := Any.strings_Join Tryz.lays156 Tryz.Builder_Extra_156 bk o c xs sep w hcells hbk hN hcap hlen
def Tryz.lays137_ren : Go.Shelf.Ren := ⟨fun | 137 => 177 | 217 => 252 | 266 => 314 | n => n, fun | 9 => 9 | 5 => 5 | 3 => 3 | n => n, fun | n => n⟩
theorem Tryz.lays137 : Go.Proofs.Lays.n137 Tryz.prog Tryz.lays137_ren := {
  mixed := by kernel_rfl
  f137 := Tryz.func177.trans (congrArg some (by kernel_rfl))
  f217 := Tryz.func252.trans (congrArg some (by kernel_rfl))
  f266 := Tryz.func314.trans (congrArg some (by kernel_rfl))
  t3 := Tryz.underlying3
  a3 := Tryz.isAgg3
  z3 := Tryz.sizeOf3
  v3 := Tryz.zeroValue3
  t5 := Tryz.underlying5
  a5 := Tryz.isAgg5
  z5 := Tryz.sizeOf5
  v5 := Tryz.zeroValue5
  t9 := Tryz.underlying9
  a9 := Tryz.isAgg9
  z9 := Tryz.sizeOf9
  v9 := Tryz.zeroValue9 }
open Go.RowKit in
theorem Tryz.strings_IndexByte (s : ByteArray) (c : Int) (w : World) :
    Calls Tryz.prog 177 #[.string s, .int .u8 c] w fun e w' => e = .returned (.int .i64 (Lib.indexByte s.data.toList c.toNat.toUInt8)) ∧ w' = w := Any.strings_IndexByte Tryz.lays137 s c w
def Tryz.lays103_ren : Go.Shelf.Ren := ⟨fun | 103 => 350 | 210 => 379 | 206 => 219 | n => n, fun | 9 => 9 | 4 => 4 | 24 => 70 | 3 => 3 | n => n, fun | n => n⟩
theorem Tryz.lays103 : Go.Proofs.Lays.n103 Tryz.prog Tryz.lays103_ren := {
  mixed := by kernel_rfl
  f103 := Tryz.func350.trans (congrArg some (by kernel_rfl))
  f206 := Tryz.func219.trans (congrArg some (by kernel_rfl))
  f210 := Tryz.func379.trans (congrArg some (by kernel_rfl))
  t3 := Tryz.underlying3
  a3 := Tryz.isAgg3
  z3 := Tryz.sizeOf3
  v3 := Tryz.zeroValue3
  t4 := Tryz.underlying4
  a4 := Tryz.isAgg4
  z4 := Tryz.sizeOf4
  v4 := Tryz.zeroValue4
  t9 := Tryz.underlying9
  a9 := Tryz.isAgg9
  z9 := Tryz.sizeOf9
  v9 := Tryz.zeroValue9
  t24 := Tryz.underlying70
  a24 := Tryz.isAgg70
  z24 := Tryz.sizeOf70
  v24 := Tryz.zeroValue70 }
open Go.RowKit in
theorem Tryz.strings_CutPrefix (s p : ByteArray) (w : World) :
    Calls Tryz.prog 350 #[.string s, .string p] w fun e w' => e = .returned (.tuple #[.string ⟨(Lib.trimPrefix s.data.toList p.data.toList).toArray⟩, .bool (Lib.hasPrefix s.data.toList p.data.toList)]) ∧ w' = w := Any.strings_CutPrefix Tryz.lays103 s p w
def Tryz.lays104_ren : Go.Shelf.Ren := ⟨fun | 104 => 352 | 211 => 380 | 207 => 171 | n => n, fun | 9 => 9 | 4 => 4 | 24 => 70 | 3 => 3 | n => n, fun | n => n⟩
theorem Tryz.lays104 : Go.Proofs.Lays.n104 Tryz.prog Tryz.lays104_ren := {
  mixed := by kernel_rfl
  f104 := Tryz.func352.trans (congrArg some (by kernel_rfl))
  f207 := Tryz.func171.trans (congrArg some (by kernel_rfl))
  f211 := Tryz.func380.trans (congrArg some (by kernel_rfl))
  t3 := Tryz.underlying3
  a3 := Tryz.isAgg3
  z3 := Tryz.sizeOf3
  v3 := Tryz.zeroValue3
  t4 := Tryz.underlying4
  a4 := Tryz.isAgg4
  z4 := Tryz.sizeOf4
  v4 := Tryz.zeroValue4
  t9 := Tryz.underlying9
  a9 := Tryz.isAgg9
  z9 := Tryz.sizeOf9
  v9 := Tryz.zeroValue9
  t24 := Tryz.underlying70
  a24 := Tryz.isAgg70
  z24 := Tryz.sizeOf70
  v24 := Tryz.zeroValue70 }
open Go.RowKit in
theorem Tryz.strings_CutSuffix (s p : ByteArray) (w : World) (hs : s.size ≤ 9223372036854775807) :
    Calls Tryz.prog 352 #[.string s, .string p] w fun e w' => e = .returned (.tuple #[.string ⟨(Lib.trimSuffix s.data.toList p.data.toList).toArray⟩, .bool (Lib.hasSuffix s.data.toList p.data.toList)]) ∧ w' = w := Any.strings_CutSuffix Tryz.lays104 s p w hs
def Tryz.lays171_ren : Go.Shelf.Ren := ⟨fun | 171 => 223 | 243 => 292 | 246 => 293 | 283 => 344 | 284 => 345 | 285 => 346 | 286 => 347 | 129 => 157 | 317 => 373 | 318 => 374 | 319 => 375 | 320 => 376 | 337 => 386 | 338 => 387 | n => n, fun | 3 => 3 | 9 => 9 | 2 => 2 | 4 => 4 | 171 => 400 | 0 => 0 | 53 => 246 | 37 => 79 | 5 => 5 | 173 => 402 | 212 => 418 | 51 => 244 | 20 => 20 | 213 => 419 | 46 => 149 | 232 => 440 | 233 => 441 | n => n, fun | 17 => 6 | 18 => 7 | 19 => 8 | n => n⟩
theorem Tryz.lays171 : Go.Proofs.Lays.n171 Tryz.prog Tryz.lays171_ren := {
  mixed := by kernel_rfl
  f129 := Tryz.func157.trans (congrArg some (by kernel_rfl))
  f171 := Tryz.func223.trans (congrArg some (by kernel_rfl))
  f243 := Tryz.func292.trans (congrArg some (by kernel_rfl))
  f246 := Tryz.func293.trans (congrArg some (by kernel_rfl))
  f283 := Tryz.func344.trans (congrArg some (by kernel_rfl))
  f284 := Tryz.func345.trans (congrArg some (by kernel_rfl))
  f285 := Tryz.func346.trans (congrArg some (by kernel_rfl))
  f286 := Tryz.func347.trans (congrArg some (by kernel_rfl))
  f317 := Tryz.func373.trans (congrArg some (by kernel_rfl))
  f318 := Tryz.func374.trans (congrArg some (by kernel_rfl))
  f319 := Tryz.func375.trans (congrArg some (by kernel_rfl))
  f320 := Tryz.func376.trans (congrArg some (by kernel_rfl))
  f337 := Tryz.func386.trans (congrArg some (by kernel_rfl))
  f338 := Tryz.func387.trans (congrArg some (by kernel_rfl))
  t0 := Tryz.underlying0
  a0 := Tryz.isAgg0
  z0 := Tryz.sizeOf0
  v0 := Tryz.zeroValue0
  t2 := Tryz.underlying2
  a2 := Tryz.isAgg2
  z2 := Tryz.sizeOf2
  v2 := Tryz.zeroValue2
  t3 := Tryz.underlying3
  a3 := Tryz.isAgg3
  z3 := Tryz.sizeOf3
  v3 := Tryz.zeroValue3
  t4 := Tryz.underlying4
  a4 := Tryz.isAgg4
  z4 := Tryz.sizeOf4
  v4 := Tryz.zeroValue4
  t5 := Tryz.underlying5
  a5 := Tryz.isAgg5
  z5 := Tryz.sizeOf5
  v5 := Tryz.zeroValue5
  t9 := Tryz.underlying9
  a9 := Tryz.isAgg9
  z9 := Tryz.sizeOf9
  v9 := Tryz.zeroValue9
  t20 := Tryz.underlying20
  a20 := Tryz.isAgg20
  z20 := Tryz.sizeOf20
  v20 := Tryz.zeroValue20
  t37 := Tryz.underlying79
  a37 := Tryz.isAgg79
  z37 := Tryz.sizeOf79
  v37 := Tryz.zeroValue79
  t46 := Tryz.underlying149
  a46 := Tryz.isAgg149
  z46 := Tryz.sizeOf149
  v46 := Tryz.zeroValue149
  t51 := Tryz.underlying244
  a51 := Tryz.isAgg244
  z51 := Tryz.sizeOf244
  v51 := Tryz.zeroValue244
  t53 := Tryz.underlying246
  a53 := Tryz.isAgg246
  z53 := Tryz.sizeOf246
  v53 := Tryz.zeroValue246
  t171 := Tryz.underlying400
  a171 := Tryz.isAgg400
  z171 := Tryz.sizeOf400
  v171 := Tryz.zeroValue400
  t173 := Tryz.underlying402
  a173 := Tryz.isAgg402
  z173 := Tryz.sizeOf402
  v173 := Tryz.zeroValue402
  t212 := Tryz.underlying418
  a212 := Tryz.isAgg418
  z212 := Tryz.sizeOf418
  v212 := Tryz.zeroValue418
  t213 := Tryz.underlying419
  a213 := Tryz.isAgg419
  z213 := Tryz.sizeOf419
  t232 := Tryz.underlying440
  a232 := Tryz.isAgg440
  z232 := Tryz.sizeOf440
  v232 := Tryz.zeroValue440
  t233 := Tryz.underlying441
  a233 := Tryz.isAgg441
  z233 := Tryz.sizeOf441
  v233 := Tryz.zeroValue441
  g17 := by kernel_rfl
  g18 := by kernel_rfl
  g19 := by kernel_rfl }
open Go.RowKit Go.Sort Go.Lib in
theorem Tryz.strconv_Itoa_small (i : Nat) (hi : i < 100) (w : World) :
    Calls Tryz.prog 223 #[.int .i64 i] w fun e w' => e = .returned (.string ⟨(Lib.decDigits i).toArray⟩) ∧ w' = w := Any.strconv_Itoa_small Tryz.lays171 i hi w
def Tryz.lays219_ren : Go.Shelf.Ren := ⟨fun | 219 => 323 | 217 => 252 | 225 => 368 | 224 => 369 | 267 => 370 | 266 => 314 | 314 => 385 | n => n, fun | 9 => 9 | 3 => 3 | 4 => 4 | 5 => 5 | 46 => 149 | 146 => 434 | 51 => 244 | n => n, fun | 1 => 1 | n => n⟩
theorem Tryz.lays219 : Go.Proofs.Lays.n219 Tryz.prog Tryz.lays219_ren := {
  mixed := by kernel_rfl
  f217 := Tryz.func252.trans (congrArg some (by kernel_rfl))
  f219 := Tryz.func323.trans (congrArg some (by kernel_rfl))
  f224 := Tryz.func369.trans (congrArg some (by kernel_rfl))
  f225 := Tryz.func368.trans (congrArg some (by kernel_rfl))
  f266 := Tryz.func314.trans (congrArg some (by kernel_rfl))
  f267 := Tryz.func370.trans (congrArg some (by kernel_rfl))
  f314 := Tryz.func385.trans (congrArg some (by kernel_rfl))
  t3 := Tryz.underlying3
  a3 := Tryz.isAgg3
  z3 := Tryz.sizeOf3
  v3 := Tryz.zeroValue3
  t4 := Tryz.underlying4
  a4 := Tryz.isAgg4
  z4 := Tryz.sizeOf4
  v4 := Tryz.zeroValue4
  t5 := Tryz.underlying5
  a5 := Tryz.isAgg5
  z5 := Tryz.sizeOf5
  v5 := Tryz.zeroValue5
  t9 := Tryz.underlying9
  a9 := Tryz.isAgg9
  z9 := Tryz.sizeOf9
  v9 := Tryz.zeroValue9
  t46 := Tryz.underlying149
  a46 := Tryz.isAgg149
  z46 := Tryz.sizeOf149
  v46 := Tryz.zeroValue149
  t51 := Tryz.underlying244
  a51 := Tryz.isAgg244
  z51 := Tryz.sizeOf244
  v51 := Tryz.zeroValue244
  t146 := Tryz.underlying434
  a146 := Tryz.isAgg434
  z146 := Tryz.sizeOf434
  v146 := Tryz.zeroValue434
  g1 := by kernel_rfl }
open Go.RowKit Go.Lib in
theorem Tryz.stringslite_Index_one (s : ByteArray) (c : UInt8) (w : World) :
    Calls Tryz.prog 323 #[.string s, .string ⟨#[c]⟩] w fun e w' => e = .returned (.int .i64 (Lib.indexByte s.data.toList c)) ∧ w' = w := Any.stringslite_Index_one Tryz.lays219 s c w
def Tryz.lays144_ren : Go.Shelf.Ren := ⟨fun | 144 => 197 | 143 => 262 | 219 => 323 | 217 => 252 | 225 => 368 | 224 => 369 | 267 => 370 | 266 => 314 | 314 => 385 | n => n, fun | 9 => 9 | 4 => 4 | 3 => 3 | 5 => 5 | 46 => 149 | 146 => 434 | 51 => 244 | n => n, fun | 1 => 1 | n => n⟩
theorem Tryz.lays144 : Go.Proofs.Lays.n144 Tryz.prog Tryz.lays144_ren := {
  mixed := by kernel_rfl
  f143 := Tryz.func262.trans (congrArg some (by kernel_rfl))
  f144 := Tryz.func197.trans (congrArg some (by kernel_rfl))
  f217 := Tryz.func252.trans (congrArg some (by kernel_rfl))
  f219 := Tryz.func323.trans (congrArg some (by kernel_rfl))
  f224 := Tryz.func369.trans (congrArg some (by kernel_rfl))
  f225 := Tryz.func368.trans (congrArg some (by kernel_rfl))
  f266 := Tryz.func314.trans (congrArg some (by kernel_rfl))
  f267 := Tryz.func370.trans (congrArg some (by kernel_rfl))
  f314 := Tryz.func385.trans (congrArg some (by kernel_rfl))
  t3 := Tryz.underlying3
  a3 := Tryz.isAgg3
  z3 := Tryz.sizeOf3
  v3 := Tryz.zeroValue3
  t4 := Tryz.underlying4
  a4 := Tryz.isAgg4
  z4 := Tryz.sizeOf4
  v4 := Tryz.zeroValue4
  t5 := Tryz.underlying5
  a5 := Tryz.isAgg5
  z5 := Tryz.sizeOf5
  v5 := Tryz.zeroValue5
  t9 := Tryz.underlying9
  a9 := Tryz.isAgg9
  z9 := Tryz.sizeOf9
  v9 := Tryz.zeroValue9
  t46 := Tryz.underlying149
  a46 := Tryz.isAgg149
  z46 := Tryz.sizeOf149
  v46 := Tryz.zeroValue149
  t51 := Tryz.underlying244
  a51 := Tryz.isAgg244
  z51 := Tryz.sizeOf244
  v51 := Tryz.zeroValue244
  t146 := Tryz.underlying434
  a146 := Tryz.isAgg434
  z146 := Tryz.sizeOf434
  v146 := Tryz.zeroValue434
  g1 := by kernel_rfl }
open Go.RowKit Go.Lib in
theorem Tryz.strings_Contains_one (s : ByteArray) (c : UInt8) (w : World) :
    Calls Tryz.prog 197 #[.string s, .string ⟨#[c]⟩] w fun e w' => e = .returned (.bool (decide (0 ≤ Lib.indexByte s.data.toList c))) ∧ w' = w := Any.strings_Contains_one Tryz.lays144 s c w
def Tryz.lays190_ren : Go.Shelf.Ren := ⟨fun | 190 => 33 | 125 => 80 | 258 => 79 | 128 => 156 | 129 => 157 | 302 => 147 | 303 => 148 | 304 => 149 | 305 => 150 | 306 => 151 | 307 => 152 | 308 => 153 | 309 => 154 | 310 => 155 | 333 => 231 | 329 => 232 | 330 => 233 | 334 => 234 | 335 => 235 | 336 => 236 | 344 => 295 | n => n, fun | 31 => 72 | 9 => 9 | 3 => 3 | 46 => 149 | 0 => 0 | 51 => 244 | 53 => 246 | 4 => 4 | 183 => 237 | 182 => 236 | 131 => 241 | 5 => 5 | 218 => 308 | 222 => 312 | 228 => 361 | 229 => 153 | n => n, fun | n => n⟩
theorem Tryz.lays190 : Go.Proofs.Lays.n190 Tryz.prog Tryz.lays190_ren := {
  mixed := by kernel_rfl
  f125 := Tryz.func80.trans (congrArg some (by kernel_rfl))
  f128 := Tryz.func156.trans (congrArg some (by kernel_rfl))
  f129 := Tryz.func157.trans (congrArg some (by kernel_rfl))
  f190 := Tryz.func33.trans (congrArg some (by kernel_rfl))
  f258 := Tryz.func79.trans (congrArg some (by kernel_rfl))
  f302 := Tryz.func147.trans (congrArg some (by kernel_rfl))
  f303 := Tryz.func148.trans (congrArg some (by kernel_rfl))
  f304 := Tryz.func149.trans (congrArg some (by kernel_rfl))
  f305 := Tryz.func150.trans (congrArg some (by kernel_rfl))
  f306 := Tryz.func151.trans (congrArg some (by kernel_rfl))
  f307 := Tryz.func152.trans (congrArg some (by kernel_rfl))
  f308 := Tryz.func153.trans (congrArg some (by kernel_rfl))
  f309 := Tryz.func154.trans (congrArg some (by kernel_rfl))
  f310 := Tryz.func155.trans (congrArg some (by kernel_rfl))
  f329 := Tryz.func232.trans (congrArg some (by kernel_rfl))
  f330 := Tryz.func233.trans (congrArg some (by kernel_rfl))
  f333 := Tryz.func231.trans (congrArg some (by kernel_rfl))
  f334 := Tryz.func234.trans (congrArg some (by kernel_rfl))
  f335 := Tryz.func235.trans (congrArg some (by kernel_rfl))
  f336 := Tryz.func236.trans (congrArg some (by kernel_rfl))
  f344 := Tryz.func295.trans (congrArg some (by kernel_rfl))
  t0 := Tryz.underlying0
  a0 := Tryz.isAgg0
  z0 := Tryz.sizeOf0
  v0 := Tryz.zeroValue0
  t3 := Tryz.underlying3
  a3 := Tryz.isAgg3
  z3 := Tryz.sizeOf3
  v3 := Tryz.zeroValue3
  t4 := Tryz.underlying4
  a4 := Tryz.isAgg4
  z4 := Tryz.sizeOf4
  v4 := Tryz.zeroValue4
  t5 := Tryz.underlying5
  a5 := Tryz.isAgg5
  z5 := Tryz.sizeOf5
  v5 := Tryz.zeroValue5
  t9 := Tryz.underlying9
  a9 := Tryz.isAgg9
  z9 := Tryz.sizeOf9
  v9 := Tryz.zeroValue9
  t31 := Tryz.underlying72
  a31 := Tryz.isAgg72
  z31 := Tryz.sizeOf72
  v31 := Tryz.zeroValue72
  t46 := Tryz.underlying149
  a46 := Tryz.isAgg149
  z46 := Tryz.sizeOf149
  v46 := Tryz.zeroValue149
  t51 := Tryz.underlying244
  a51 := Tryz.isAgg244
  z51 := Tryz.sizeOf244
  v51 := Tryz.zeroValue244
  t53 := Tryz.underlying246
  a53 := Tryz.isAgg246
  z53 := Tryz.sizeOf246
  v53 := Tryz.zeroValue246
  t131 := Tryz.underlying241
  a131 := Tryz.isAgg241
  z131 := Tryz.sizeOf241
  v131 := Tryz.zeroValue241
  t182 := Tryz.underlying236
  a182 := Tryz.isAgg236
  z182 := Tryz.sizeOf236
  v182 := Tryz.zeroValue236
  t183 := Tryz.underlying237
  a183 := Tryz.isAgg237
  z183 := Tryz.sizeOf237
  v183 := Tryz.zeroValue237
  t218 := Tryz.underlying308
  a218 := Tryz.isAgg308
  z218 := Tryz.sizeOf308
  v218 := Tryz.zeroValue308
  t222 := Tryz.underlying312
  a222 := Tryz.isAgg312
  z222 := Tryz.sizeOf312
  v222 := Tryz.zeroValue312
  t228 := Tryz.underlying361
  a228 := Tryz.isAgg361
  z228 := Tryz.sizeOf361
  v228 := Tryz.zeroValue361
  t229 := Tryz.underlying153
  a229 := Tryz.isAgg153
  z229 := Tryz.sizeOf153
  v229 := Tryz.zeroValue153 }
open Go.Sort Go.RowKit in
theorem Tryz.slices_Sort_string (blk off cap : Nat) (ss : List (List UInt8)) (w : World) (hH : Holds encStr w blk off ss.toArray) (hblk : blk < w.heap.size) (hsz : ss.length < 4611686018427387904) :
    Calls Tryz.prog 33 #[.slice (some ⟨blk, off, none⟩) ss.length cap] w fun e w' =>
      e = .returned (.tuple #[]) ∧ ∃ n os, w' = grow (putRow encStr (Sort.ahead w n) blk off (ss.mergeSort fun x y => decide (x ≤ y)).toArray) os := Any.slices_Sort_string Tryz.lays190 blk off cap ss w hH hblk hsz
def Tryz.lays99_ren : Go.Shelf.Ren := ⟨fun | 99 => 135 | 206 => 219 | n => n, fun | 9 => 9 | 4 => 4 | 3 => 3 | n => n, fun | n => n⟩
theorem Tryz.lays99 : Go.Proofs.Lays.n99 Tryz.prog Tryz.lays99_ren := {
  mixed := by kernel_rfl
  f99 := Tryz.func135.trans (congrArg some (by kernel_rfl))
  f206 := Tryz.func219.trans (congrArg some (by kernel_rfl))
  t3 := Tryz.underlying3
  a3 := Tryz.isAgg3
  z3 := Tryz.sizeOf3
  v3 := Tryz.zeroValue3
  t4 := Tryz.underlying4
  a4 := Tryz.isAgg4
  z4 := Tryz.sizeOf4
  v4 := Tryz.zeroValue4
  t9 := Tryz.underlying9
  a9 := Tryz.isAgg9
  z9 := Tryz.sizeOf9
  v9 := Tryz.zeroValue9 }
open Go.RowKit Go.Lib in
theorem Tryz.strings_HasPrefix (s p : ByteArray) (w : World) :
    Calls Tryz.prog 135 #[.string s, .string p] w fun e w' => e = .returned (.bool (Lib.hasPrefix s.data.toList p.data.toList)) ∧ w' = w := Any.strings_HasPrefix Tryz.lays99 s p w
def Tryz.lays102_ren : Go.Shelf.Ren := ⟨fun | 102 => 40 | 209 => 94 | 207 => 171 | n => n, fun | 9 => 9 | 4 => 4 | 3 => 3 | n => n, fun | n => n⟩
theorem Tryz.lays102 : Go.Proofs.Lays.n102 Tryz.prog Tryz.lays102_ren := {
  mixed := by kernel_rfl
  f102 := Tryz.func40.trans (congrArg some (by kernel_rfl))
  f207 := Tryz.func171.trans (congrArg some (by kernel_rfl))
  f209 := Tryz.func94.trans (congrArg some (by kernel_rfl))
  t3 := Tryz.underlying3
  a3 := Tryz.isAgg3
  z3 := Tryz.sizeOf3
  v3 := Tryz.zeroValue3
  t4 := Tryz.underlying4
  a4 := Tryz.isAgg4
  z4 := Tryz.sizeOf4
  v4 := Tryz.zeroValue4
  t9 := Tryz.underlying9
  a9 := Tryz.isAgg9
  z9 := Tryz.sizeOf9
  v9 := Tryz.zeroValue9 }
open Go.RowKit Go.Lib in
theorem Tryz.strings_TrimSuffix (s p : ByteArray) (w : World) (hs : s.size ≤ 9223372036854775807) :
    Calls Tryz.prog 40 #[.string s, .string p] w fun e w' => e = .returned (.string ⟨(Lib.trimSuffix s.data.toList p.data.toList).toArray⟩) ∧ w' = w := Any.strings_TrimSuffix Tryz.lays102 s p w hs
def Tryz.lays146_ren : Go.Shelf.Ren := ⟨fun | 146 => 356 | 221 => 382 | 268 => 388 | 138 => 278 | 143 => 262 | 195 => 339 | 197 => 162 | 218 => 340 | 219 => 323 | 260 => 245 | 217 => 252 | 225 => 368 | 224 => 369 | 267 => 370 | 266 => 314 | 314 => 385 | n => n, fun | 9 => 9 | 31 => 72 | 3 => 3 | 4 => 4 | 0 => 0 | 105 => 254 | 21 => 21 | 5 => 5 | 46 => 149 | 119 => 364 | 139 => 367 | 138 => 366 | 146 => 434 | 51 => 244 | n => n, fun | 1 => 1 | 3 => 2 | 4 => 3 | n => n⟩
theorem Tryz.lays146 : Go.Proofs.Lays.n146 Tryz.prog Tryz.lays146_ren := {
  mixed := by kernel_rfl
  f138 := Tryz.func278.trans (congrArg some (by kernel_rfl))
  f143 := Tryz.func262.trans (congrArg some (by kernel_rfl))
  f146 := Tryz.func356.trans (congrArg some (by kernel_rfl))
  f195 := Tryz.func339.trans (congrArg some (by kernel_rfl))
  f197 := Tryz.func162.trans (congrArg some (by kernel_rfl))
  f217 := Tryz.func252.trans (congrArg some (by kernel_rfl))
  f218 := Tryz.func340.trans (congrArg some (by kernel_rfl))
  f219 := Tryz.func323.trans (congrArg some (by kernel_rfl))
  f221 := Tryz.func382.trans (congrArg some (by kernel_rfl))
  f224 := Tryz.func369.trans (congrArg some (by kernel_rfl))
  f225 := Tryz.func368.trans (congrArg some (by kernel_rfl))
  f260 := Tryz.func245.trans (congrArg some (by kernel_rfl))
  f266 := Tryz.func314.trans (congrArg some (by kernel_rfl))
  f267 := Tryz.func370.trans (congrArg some (by kernel_rfl))
  f268 := Tryz.func388.trans (congrArg some (by kernel_rfl))
  f314 := Tryz.func385.trans (congrArg some (by kernel_rfl))
  t0 := Tryz.underlying0
  a0 := Tryz.isAgg0
  z0 := Tryz.sizeOf0
  v0 := Tryz.zeroValue0
  t3 := Tryz.underlying3
  a3 := Tryz.isAgg3
  z3 := Tryz.sizeOf3
  v3 := Tryz.zeroValue3
  t4 := Tryz.underlying4
  a4 := Tryz.isAgg4
  z4 := Tryz.sizeOf4
  v4 := Tryz.zeroValue4
  t5 := Tryz.underlying5
  a5 := Tryz.isAgg5
  z5 := Tryz.sizeOf5
  v5 := Tryz.zeroValue5
  t9 := Tryz.underlying9
  a9 := Tryz.isAgg9
  z9 := Tryz.sizeOf9
  v9 := Tryz.zeroValue9
  t21 := Tryz.underlying21
  a21 := Tryz.isAgg21
  z21 := Tryz.sizeOf21
  v21 := Tryz.zeroValue21
  t31 := Tryz.underlying72
  a31 := Tryz.isAgg72
  z31 := Tryz.sizeOf72
  v31 := Tryz.zeroValue72
  t46 := Tryz.underlying149
  a46 := Tryz.isAgg149
  z46 := Tryz.sizeOf149
  v46 := Tryz.zeroValue149
  t51 := Tryz.underlying244
  a51 := Tryz.isAgg244
  z51 := Tryz.sizeOf244
  v51 := Tryz.zeroValue244
  t105 := Tryz.underlying254
  a105 := Tryz.isAgg254
  z105 := Tryz.sizeOf254
  v105 := Tryz.zeroValue254
  t119 := Tryz.underlying364
  a119 := Tryz.isAgg364
  z119 := Tryz.sizeOf364
  t138 := Tryz.underlying366
  a138 := Tryz.isAgg366
  z138 := Tryz.sizeOf366
  v138 := Tryz.zeroValue366
  t139 := Tryz.underlying367
  a139 := Tryz.isAgg367
  z139 := Tryz.sizeOf367
  v139 := Tryz.zeroValue367
  t146 := Tryz.underlying434
  a146 := Tryz.isAgg434
  z146 := Tryz.sizeOf434
  v146 := Tryz.zeroValue434
  g1 := by kernel_rfl
  g3 := by kernel_rfl
  g4 := by kernel_rfl }
open Go.RowKit Go.Lib in
theorem Tryz.strings_Split (s sep : ByteArray) (m : Int) (w : World) (hs : s.size < 4294967281) (hm : w.cell? ⟨1, 0, none⟩ = some (.int .i64 m)) (h1 : 1 ≤ sep.size) :
    Calls Tryz.prog 356 #[.string s, .string sep] w fun e w' =>
      e = .returned (.slice (some ⟨w.heap.size, 0, none⟩) (Lib.countB s sep + 1) (Lib.countB s sep + 1)) ∧ w' = w.alloc (.cells ((Lib.splitB sep 0 (Lib.countB s sep) s).map Value.string).toArray 9) := Any.strings_Split Tryz.lays146 (by kernel_rfl) s sep m w hs hm h1
def Tryz.lays157_ren : Go.Shelf.Ren := ⟨fun | 157 => 248 | 229 => 301 | 199 => 302 | 261 => 348 | 311 => 377 | 312 => 378 | n => n, fun | 9 => 9 | 31 => 72 | 3 => 3 | 5 => 5 | 4 => 4 | 119 => 364 | 0 => 0 | 40 => 372 | 152 => 408 | 21 => 21 | 154 => 410 | 51 => 244 | 141 => 412 | 196 => 423 | 193 => 420 | 198 => 426 | 49 => 424 | 194 => 421 | 201 => 429 | 226 => 436 | 46 => 149 | 227 => 437 | n => n, fun | 0 => 4 | 6 => 5 | n => n⟩
theorem Tryz.lays157 : Go.Proofs.Lays.n157 Tryz.prog Tryz.lays157_ren := {
  mixed := by kernel_rfl
  f157 := Tryz.func248.trans (congrArg some (by kernel_rfl))
  f199 := Tryz.func302.trans (congrArg some (by kernel_rfl))
  f229 := Tryz.func301.trans (congrArg some (by kernel_rfl))
  f261 := Tryz.func348.trans (congrArg some (by kernel_rfl))
  f311 := Tryz.func377.trans (congrArg some (by kernel_rfl))
  f312 := Tryz.func378.trans (congrArg some (by kernel_rfl))
  t0 := Tryz.underlying0
  a0 := Tryz.isAgg0
  z0 := Tryz.sizeOf0
  v0 := Tryz.zeroValue0
  t3 := Tryz.underlying3
  a3 := Tryz.isAgg3
  z3 := Tryz.sizeOf3
  v3 := Tryz.zeroValue3
  t4 := Tryz.underlying4
  a4 := Tryz.isAgg4
  z4 := Tryz.sizeOf4
  v4 := Tryz.zeroValue4
  t5 := Tryz.underlying5
  a5 := Tryz.isAgg5
  z5 := Tryz.sizeOf5
  v5 := Tryz.zeroValue5
  t9 := Tryz.underlying9
  a9 := Tryz.isAgg9
  z9 := Tryz.sizeOf9
  v9 := Tryz.zeroValue9
  t21 := Tryz.underlying21
  a21 := Tryz.isAgg21
  z21 := Tryz.sizeOf21
  v21 := Tryz.zeroValue21
  t31 := Tryz.underlying72
  a31 := Tryz.isAgg72
  z31 := Tryz.sizeOf72
  v31 := Tryz.zeroValue72
  t40 := Tryz.underlying372
  a40 := Tryz.isAgg372
  z40 := Tryz.sizeOf372
  v40 := Tryz.zeroValue372
  t46 := Tryz.underlying149
  a46 := Tryz.isAgg149
  z46 := Tryz.sizeOf149
  v46 := Tryz.zeroValue149
  t49 := Tryz.underlying424
  a49 := Tryz.isAgg424
  z49 := Tryz.sizeOf424
  v49 := Tryz.zeroValue424
  t51 := Tryz.underlying244
  a51 := Tryz.isAgg244
  z51 := Tryz.sizeOf244
  v51 := Tryz.zeroValue244
  t119 := Tryz.underlying364
  a119 := Tryz.isAgg364
  z119 := Tryz.sizeOf364
  t141 := Tryz.underlying412
  a141 := Tryz.isAgg412
  z141 := Tryz.sizeOf412
  v141 := Tryz.zeroValue412
  t152 := Tryz.underlying408
  a152 := Tryz.isAgg408
  z152 := Tryz.sizeOf408
  v152 := Tryz.zeroValue408
  t154 := Tryz.underlying410
  a154 := Tryz.isAgg410
  z154 := Tryz.sizeOf410
  v154 := Tryz.zeroValue410
  t193 := Tryz.underlying420
  a193 := Tryz.isAgg420
  z193 := Tryz.sizeOf420
  v193 := Tryz.zeroValue420
  t194 := Tryz.underlying421
  a194 := Tryz.isAgg421
  z194 := Tryz.sizeOf421
  v194 := Tryz.zeroValue421
  t196 := Tryz.underlying423
  a196 := Tryz.isAgg423
  z196 := Tryz.sizeOf423
  v196 := Tryz.zeroValue423
  t198 := Tryz.underlying426
  a198 := Tryz.isAgg426
  z198 := Tryz.sizeOf426
  v198 := Tryz.zeroValue426
  t201 := Tryz.underlying429
  a201 := Tryz.isAgg429
  z201 := Tryz.sizeOf429
  v201 := Tryz.zeroValue429
  t226 := Tryz.underlying436
  a226 := Tryz.isAgg436
  z226 := Tryz.sizeOf436
  v226 := Tryz.zeroValue436
  t227 := Tryz.underlying437
  a227 := Tryz.isAgg437
  z227 := Tryz.sizeOf437
  v227 := Tryz.zeroValue437
  g0 := by kernel_rfl
  g6 := by kernel_rfl }
open Go.RowKit Go.Lib in
theorem Tryz.strings_Fields (s : ByteArray) (w : World) (hs : s.size < 4294967281) (hascii : ∀ (j : Nat) b, s.data.toList[j]? = some b → b.toNat < 128) (htab : Lib.TabIs Tryz.prog w "strings.asciiSpace" .u8 Lib.asciiSpaceTab) :
    Calls Tryz.prog 248 #[.string s] w fun e w' =>
      e = .returned (.slice (some ⟨w.heap.size, 0, none⟩) (Lib.fields s.data.toList).length (Lib.fields s.data.toList).length) ∧ w' = w.alloc (.cells ((Lib.fields s.data.toList).map fun l => Value.string ⟨l.toArray⟩).toArray 9) := Any.strings_Fields Tryz.lays157 (by kernel_rfl) (by kernel_rfl) s w hs hascii htab
def Tryz.lays107_ren : Go.Shelf.Ren := ⟨fun | 107 => 260 | 108 => 322 | n => n, fun | 28 => 199 | 3 => 3 | 4 => 4 | 0 => 0 | n => n, fun | n => n⟩
theorem Tryz.lays107 : Go.Proofs.Lays.n107 Tryz.prog Tryz.lays107_ren := {
  mixed := by kernel_rfl
  f107 := Tryz.func260.trans (congrArg some (by kernel_rfl))
  f108 := Tryz.func322.trans (congrArg some (by kernel_rfl))
  t0 := Tryz.underlying0
  a0 := Tryz.isAgg0
  z0 := Tryz.sizeOf0
  v0 := Tryz.zeroValue0
  t3 := Tryz.underlying3
  a3 := Tryz.isAgg3
  z3 := Tryz.sizeOf3
  v3 := Tryz.zeroValue3
  t4 := Tryz.underlying4
  a4 := Tryz.isAgg4
  z4 := Tryz.sizeOf4
  v4 := Tryz.zeroValue4
  t28 := Tryz.underlying199
  a28 := Tryz.isAgg199
  z28 := Tryz.sizeOf199
  v28 := Tryz.zeroValue199 }
open Go.Lib in
theorem Tryz.slices_Contains_int (b off n c : Nat) (zs : List Int) (x : Int) (w : World) (hz : n ≤ zs.length) (hbig : n ≤ 9223372036854775807) (hc : ∀ j, j < zs.length → w.cell? ⟨b, off + j, none⟩ = some (.int .i64 (zs.getD j 0))) :
    Calls Tryz.prog 260 #[.slice (some ⟨b, off, none⟩) n c, .int .i64 x] w fun e w' => e = .returned (.bool ((zs.take n).contains x)) ∧ w' = w := Any.slices_Contains_int Tryz.lays107 b off n c zs x w hz hbig hc
def Tryz.lays110_ren : Go.Shelf.Ren := ⟨fun | 110 => 192 | 109 => 256 | n => n, fun | 31 => 72 | 9 => 9 | 4 => 4 | 3 => 3 | 0 => 0 | n => n, fun | n => n⟩
theorem Tryz.lays110 : Go.Proofs.Lays.n110 Tryz.prog Tryz.lays110_ren := {
  mixed := by kernel_rfl
  f109 := Tryz.func256.trans (congrArg some (by kernel_rfl))
  f110 := Tryz.func192.trans (congrArg some (by kernel_rfl))
  t0 := Tryz.underlying0
  a0 := Tryz.isAgg0
  z0 := Tryz.sizeOf0
  v0 := Tryz.zeroValue0
  t3 := Tryz.underlying3
  a3 := Tryz.isAgg3
  z3 := Tryz.sizeOf3
  v3 := Tryz.zeroValue3
  t4 := Tryz.underlying4
  a4 := Tryz.isAgg4
  z4 := Tryz.sizeOf4
  v4 := Tryz.zeroValue4
  t9 := Tryz.underlying9
  a9 := Tryz.isAgg9
  z9 := Tryz.sizeOf9
  v9 := Tryz.zeroValue9
  t31 := Tryz.underlying72
  a31 := Tryz.isAgg72
  z31 := Tryz.sizeOf72
  v31 := Tryz.zeroValue72 }
open Go.Lib in
theorem Tryz.slices_Contains_string (b off n c : Nat) (zs : List ByteArray) (x : ByteArray) (w : World) (hz : n ≤ zs.length) (hbig : n ≤ 9223372036854775807) (hc : ∀ j, j < zs.length → w.cell? ⟨b, off + j, none⟩ = some (.string (zs.getD j ByteArray.empty))) :
    Calls Tryz.prog 192 #[.slice (some ⟨b, off, none⟩) n c, .string x] w fun e w' => e = .returned (.bool (Lib.containsS (zs.take n) x)) ∧ w' = w := Any.slices_Contains_string Tryz.lays110 b off n c zs x w hz hbig hc
open Go.Lib in
theorem Tryz.slices_Contains_string_empty (a : Option Addr) (c : Nat) (x : ByteArray) (w : World) :
    Calls Tryz.prog 192 #[.slice a 0 c, .string x] w fun e w' => e = .returned (.bool false) ∧ w' = w := Any.slices_Contains_string_empty Tryz.lays110 a c x w
def Tryz.lays194_ren : Go.Shelf.Ren := ⟨fun | 194 => 36 | n => n, fun | 31 => 72 | 9 => 9 | 3 => 3 | 4 => 4 | 0 => 0 | n => n, fun | n => n⟩
theorem Tryz.lays194 : Go.Proofs.Lays.n194 Tryz.prog Tryz.lays194_ren := {
  mixed := by kernel_rfl
  f194 := Tryz.func36.trans (congrArg some (by kernel_rfl))
  t0 := Tryz.underlying0
  a0 := Tryz.isAgg0
  z0 := Tryz.sizeOf0
  v0 := Tryz.zeroValue0
  t3 := Tryz.underlying3
  a3 := Tryz.isAgg3
  z3 := Tryz.sizeOf3
  v3 := Tryz.zeroValue3
  t4 := Tryz.underlying4
  a4 := Tryz.isAgg4
  z4 := Tryz.sizeOf4
  v4 := Tryz.zeroValue4
  t9 := Tryz.underlying9
  a9 := Tryz.isAgg9
  z9 := Tryz.sizeOf9
  v9 := Tryz.zeroValue9
  t31 := Tryz.underlying72
  a31 := Tryz.isAgg72
  z31 := Tryz.sizeOf72
  v31 := Tryz.zeroValue72 }
open Go.RowKit Go.Lib Go.Sort in
theorem Tryz.slices_Compact_string (blk off cap : Nat) (zs : List (List UInt8)) (w : World) (hH : Holds encStr w blk off zs.toArray) (hsz : zs.length ≤ 9223372036854775807) (hcap : zs.length ≤ cap) :
    Calls Tryz.prog 36 #[.slice (some ⟨blk, off, none⟩) zs.length cap] w fun e w' => e = .returned (.slice (some ⟨blk, off, none⟩) (Lib.compact zs).length cap) ∧ ∃ q, w' = putRow encStr (Sort.ahead w q) blk off (Lib.compact zs ++ List.replicate (zs.length - (Lib.compact zs).length) []).toArray := Any.slices_Compact_string Tryz.lays194 blk off cap zs w hH hsz hcap
open Go.RowKit Go.Lib Go.Sort in
theorem Tryz.slices_Compact_string_empty (a : Option Addr) (cap : Nat) (w : World) :
    Calls Tryz.prog 36 #[.slice a 0 cap] w fun e w' => e = .returned (.slice a 0 cap) ∧ w' = w := Any.slices_Compact_string_empty Tryz.lays194 a cap w
open Go.RowKit Go.Sort in
theorem Tryz.slices_Sort_string_none (p : Option Addr) (cap : Nat) (w : World) :
    Calls Tryz.prog 33 #[.slice p 0 cap] w fun e w' => e = .returned (.tuple #[]) ∧ w' = w := Any.slices_Sort_string_none Tryz.lays190 p cap w
end Go.Proofs
