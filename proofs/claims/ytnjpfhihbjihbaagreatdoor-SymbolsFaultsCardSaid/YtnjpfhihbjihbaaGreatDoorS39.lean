/- Joined texts: Iter, NamesT, AppSrc, Tabs20. -/
import Derived.Test.YtnjpfhihbjihbaaGreatDoorProg
import Derived.Test.YtnjpfhihbjihbaaGreatDoorS09
import Derived.Test.YtnjpfhihbjihbaaGreatDoorS27
import Derived.Test.YtnjpfhihbjihbaaGreatDoorS38
import Derived.Ground.GgzProg
import Derived.Ground.SlgfProg
import Derived.Ground.SlgmProg
import Derived.Ground.SlgnProg
import Derived.Ground.SlsfProg
import Derived.Maps.Own
import Derived.OwnWalk
import Derived.Shelf.SlIter.Nil
import Derived.Shelf.SlSortCmp.Insertion1
import Derived.Shelf.SlicesE.DeleteFunc
import Derived.Shelf.SlicesQ.Reverse
import Derived.Shelf.SortM.Plain
import Derived.Shelf.SortM.SortNone
import Derived.Sort.KeysCollected
import Derived.StringKeys
/- The library's contracts on the sorted keys of a map at this translation: written by the guide's lay-iter and lay-plain; remarks are left out. -/
namespace Go.Proofs
open Go.RowKit Go.Maps Go.Sort Go.Shelf
def Tryz.keys51_ren : Go.Shelf.Ren := ⟨fun | 7 => 51 | 10 => 86 | n => n, fun | 23 => 103 | 26 => 9 | 3 => 101 | 28 => 112 | 0 => 0 | 27 => 111 | 33 => 118 | 4 => 4 | n => n, fun | n => n⟩
theorem Tryz.keys51 : Go.Proofs.SlLaysZ.n7 Tryz.prog Tryz.keys51_ren := {
  mixed := by kernel_rfl
  f7 := ⟨Tryz.f51.name, by decide, Tryz.func51.trans (congrArg some (by kernel_rfl))⟩
  f10 := ⟨Tryz.f86.name, by decide, Tryz.func86.trans (congrArg some (by kernel_rfl))⟩
  t0 := Tryz.underlying0
  a0 := Tryz.isAgg0
  z0 := Tryz.sizeOf0
  v0 := Tryz.zeroValue0
  t4 := Tryz.underlying4
  a4 := Tryz.isAgg4
  z4 := Tryz.sizeOf4
  v4 := Tryz.zeroValue4
  t23 := Tryz.underlying103
  a23 := Tryz.isAgg103
  z23 := Tryz.sizeOf103
  v23 := Tryz.zeroValue103
  t26 := Tryz.underlying9
  a26 := Tryz.isAgg9
  z26 := Tryz.sizeOf9
  v26 := Tryz.zeroValue9
  t27 := Tryz.underlying111
  a27 := Tryz.isAgg111
  z27 := Tryz.sizeOf111
  v27 := Tryz.zeroValue111
  t28 := Tryz.underlying112
  a28 := Tryz.isAgg112
  z28 := Tryz.sizeOf112
  v28 := Tryz.zeroValue112
  t33 := Tryz.underlying118
  a33 := Tryz.isAgg118
  z33 := Tryz.sizeOf118
  v33 := Tryz.zeroValue118 }
def Tryz.sorted50_ren : Go.Shelf.Ren := ⟨fun | 6 => 50 | 8 => 85 | 9 => 20 | 11 => 132 | 13 => 49 | 12 => 48 | 23 => 83 | 24 => 84 | 14 => 74 | 15 => 75 | 16 => 76 | 17 => 77 | 18 => 78 | 19 => 79 | 20 => 80 | 21 => 81 | 22 => 82 | 25 => 126 | 26 => 127 | 27 => 128 | 28 => 129 | 29 => 130 | 30 => 131 | 31 => 157 | n => n, fun | 26 => 9 | 28 => 112 | 24 => 45 | 0 => 0 | 3 => 3 | 37 => 109 | 48 => 164 | 50 => 166 | 4 => 4 | 40 => 157 | 39 => 156 | 45 => 57 | 5 => 5 | 9 => 9 | 51 => 194 | 55 => 198 | 57 => 217 | 58 => 40 | 33 => 118 | n => n, fun | n => n⟩
theorem Tryz.sorted50 : Go.Proofs.SlLaysZ.n6 Tryz.prog Tryz.sorted50_ren := {
  mixed := by kernel_rfl
  f6 := ⟨Tryz.f50.name, by decide, Tryz.func50.trans (congrArg some (by kernel_rfl))⟩
  f8 := ⟨Tryz.f85.name, by decide, Tryz.func85.trans (congrArg some (by kernel_rfl))⟩
  f11 := ⟨Tryz.f132.name, by decide, Tryz.func132.trans (congrArg some (by kernel_rfl))⟩
  t0 := Tryz.underlying0
  a0 := Tryz.isAgg0
  z0 := Tryz.sizeOf0
  v0 := Tryz.zeroValue0
  t24 := Tryz.underlying45
  a24 := Tryz.isAgg45
  z24 := Tryz.sizeOf45
  v24 := Tryz.zeroValue45
  t26 := Tryz.underlying9
  a26 := Tryz.isAgg9
  z26 := Tryz.sizeOf9
  v26 := Tryz.zeroValue9
  t28 := Tryz.underlying112
  a28 := Tryz.isAgg112
  z28 := Tryz.sizeOf112
  v28 := Tryz.zeroValue112
  i26 := by kernel_rfl }
def Tryz.sort20_ren : Go.Shelf.Ren := ⟨fun | 6 => 20 | 8 => 49 | 9 => 48 | 19 => 83 | 20 => 84 | 21 => 74 | 22 => 75 | 23 => 76 | 24 => 77 | 25 => 78 | 26 => 79 | 27 => 80 | 28 => 81 | 29 => 82 | 36 => 126 | 31 => 127 | 32 => 128 | 37 => 129 | 38 => 130 | 39 => 131 | 41 => 157 | n => n, fun | 27 => 45 | 29 => 9 | 3 => 3 | 32 => 109 | 26 => 45 | 0 => 0 | 44 => 164 | 46 => 166 | 4 => 4 | 36 => 157 | 35 => 156 | 41 => 57 | 5 => 5 | 9 => 9 | 53 => 194 | 57 => 198 | 63 => 217 | 64 => 40 | n => n, fun | n => n⟩
theorem Tryz.sort20 : Go.Proofs.SlLaysM.n6 Tryz.prog Tryz.sort20_ren := {
  mixed := by kernel_rfl
  f6 := ⟨Tryz.f20.name, by decide, Tryz.func20.trans (congrArg some (by kernel_rfl))⟩
  f8 := Tryz.func49.trans (congrArg some (by kernel_rfl))
  f9 := ⟨Tryz.f48.name, by decide, Tryz.func48.trans (congrArg some (by kernel_rfl))⟩
  f19 := Tryz.func83.trans (congrArg some (by kernel_rfl))
  f20 := Tryz.func84.trans (congrArg some (by kernel_rfl))
  f21 := ⟨Tryz.f74.name, by decide, Tryz.func74.trans (congrArg some (by kernel_rfl))⟩
  f22 := ⟨Tryz.f75.name, by decide, Tryz.func75.trans (congrArg some (by kernel_rfl))⟩
  f23 := ⟨Tryz.f76.name, by decide, Tryz.func76.trans (congrArg some (by kernel_rfl))⟩
  f24 := ⟨Tryz.f77.name, by decide, Tryz.func77.trans (congrArg some (by kernel_rfl))⟩
  f25 := ⟨Tryz.f78.name, by decide, Tryz.func78.trans (congrArg some (by kernel_rfl))⟩
  f26 := ⟨Tryz.f79.name, by decide, Tryz.func79.trans (congrArg some (by kernel_rfl))⟩
  f27 := ⟨Tryz.f80.name, by decide, Tryz.func80.trans (congrArg some (by kernel_rfl))⟩
  f28 := ⟨Tryz.f81.name, by decide, Tryz.func81.trans (congrArg some (by kernel_rfl))⟩
  f29 := ⟨Tryz.f82.name, by decide, Tryz.func82.trans (congrArg some (by kernel_rfl))⟩
  f31 := Tryz.func127.trans (congrArg some (by kernel_rfl))
  f32 := Tryz.func128.trans (congrArg some (by kernel_rfl))
  f36 := ⟨Tryz.f126.name, by decide, Tryz.func126.trans (congrArg some (by kernel_rfl))⟩
  f37 := ⟨Tryz.f129.name, by decide, Tryz.func129.trans (congrArg some (by kernel_rfl))⟩
  f38 := ⟨Tryz.f130.name, by decide, Tryz.func130.trans (congrArg some (by kernel_rfl))⟩
  f39 := ⟨Tryz.f131.name, by decide, Tryz.func131.trans (congrArg some (by kernel_rfl))⟩
  f41 := ⟨Tryz.f157.name, by decide, Tryz.func157.trans (congrArg some (by kernel_rfl))⟩
  t0 := Tryz.underlying0
  a0 := Tryz.isAgg0
  z0 := Tryz.sizeOf0
  v0 := Tryz.zeroValue0
  t3 := Tryz.underlying3
  a3 := Tryz.isAgg3
  z3 := Tryz.sizeOf3
  v3 := Tryz.zeroValue3
  t4 := Tryz.underlying4
  a4 := Tryz.isAgg4
  z4 := Tryz.sizeOf4
  v4 := Tryz.zeroValue4
  t5 := Tryz.underlying5
  a5 := Tryz.isAgg5
  z5 := Tryz.sizeOf5
  v5 := Tryz.zeroValue5
  t9 := Tryz.underlying9
  a9 := Tryz.isAgg9
  z9 := Tryz.sizeOf9
  v9 := Tryz.zeroValue9
  t26 := Tryz.underlying45
  a26 := Tryz.isAgg45
  z26 := Tryz.sizeOf45
  v26 := Tryz.zeroValue45
  t27 := Tryz.underlying45
  a27 := Tryz.isAgg45
  z27 := Tryz.sizeOf45
  v27 := Tryz.zeroValue45
  t29 := Tryz.underlying9
  a29 := Tryz.isAgg9
  z29 := Tryz.sizeOf9
  v29 := Tryz.zeroValue9
  t32 := Tryz.underlying109
  a32 := Tryz.isAgg109
  z32 := Tryz.sizeOf109
  v32 := Tryz.zeroValue109
  t35 := Tryz.underlying156
  a35 := Tryz.isAgg156
  z35 := Tryz.sizeOf156
  v35 := Tryz.zeroValue156
  t36 := Tryz.underlying157
  a36 := Tryz.isAgg157
  z36 := Tryz.sizeOf157
  v36 := Tryz.zeroValue157
  t41 := Tryz.underlying57
  a41 := Tryz.isAgg57
  z41 := Tryz.sizeOf57
  v41 := Tryz.zeroValue57
  t44 := Tryz.underlying164
  a44 := Tryz.isAgg164
  z44 := Tryz.sizeOf164
  v44 := Tryz.zeroValue164
  t46 := Tryz.underlying166
  a46 := Tryz.isAgg166
  z46 := Tryz.sizeOf166
  v46 := Tryz.zeroValue166
  t53 := Tryz.underlying194
  a53 := Tryz.isAgg194
  z53 := Tryz.sizeOf194
  v53 := Tryz.zeroValue194
  t57 := Tryz.underlying198
  a57 := Tryz.isAgg198
  z57 := Tryz.sizeOf198
  v57 := Tryz.zeroValue198
  t63 := Tryz.underlying217
  a63 := Tryz.isAgg217
  z63 := Tryz.sizeOf217
  v63 := Tryz.zeroValue217
  t64 := Tryz.underlying40
  a64 := Tryz.isAgg40
  z64 := Tryz.sizeOf40
  v64 := Tryz.zeroValue40 }
def Tryz.keys55_ren : Go.Shelf.Ren := ⟨fun | 7 => 55 | 10 => 87 | n => n, fun | 23 => 98 | 26 => 9 | 3 => 4 | 28 => 112 | 0 => 0 | 27 => 111 | 33 => 118 | 4 => 4 | n => n, fun | n => n⟩
theorem Tryz.keys55 : Go.Proofs.SlLaysZ.n7 Tryz.prog Tryz.keys55_ren := {
  mixed := by kernel_rfl
  f7 := ⟨Tryz.f55.name, by decide, Tryz.func55.trans (congrArg some (by kernel_rfl))⟩
  f10 := ⟨Tryz.f87.name, by decide, Tryz.func87.trans (congrArg some (by kernel_rfl))⟩
  t0 := Tryz.underlying0
  a0 := Tryz.isAgg0
  z0 := Tryz.sizeOf0
  v0 := Tryz.zeroValue0
  t4 := Tryz.underlying4
  a4 := Tryz.isAgg4
  z4 := Tryz.sizeOf4
  v4 := Tryz.zeroValue4
  t23 := Tryz.underlying98
  a23 := Tryz.isAgg98
  z23 := Tryz.sizeOf98
  v23 := Tryz.zeroValue98
  t26 := Tryz.underlying9
  a26 := Tryz.isAgg9
  z26 := Tryz.sizeOf9
  v26 := Tryz.zeroValue9
  t27 := Tryz.underlying111
  a27 := Tryz.isAgg111
  z27 := Tryz.sizeOf111
  v27 := Tryz.zeroValue111
  t28 := Tryz.underlying112
  a28 := Tryz.isAgg112
  z28 := Tryz.sizeOf112
  v28 := Tryz.zeroValue112
  t33 := Tryz.underlying118
  a33 := Tryz.isAgg118
  z33 := Tryz.sizeOf118
  v33 := Tryz.zeroValue118 }
def Tryz.rev17_ren : Go.Shelf.Ren := ⟨fun | 35 => 17 | n => n, fun | 22 => 22 | 23 => 24 | 3 => 3 | 4 => 4 | 0 => 0 | n => n, fun | n => n⟩
theorem Tryz.rev17 : Go.Proofs.SlLaysE0.n35 Tryz.prog Tryz.rev17_ren := {
  mixed := by kernel_rfl
  f35 := ⟨Tryz.f17.name, by decide, Tryz.func17.trans (congrArg some (by kernel_rfl))⟩
  t0 := Tryz.underlying0
  a0 := Tryz.isAgg0
  z0 := Tryz.sizeOf0
  v0 := Tryz.zeroValue0
  t3 := Tryz.underlying3
  a3 := Tryz.isAgg3
  z3 := Tryz.sizeOf3
  v3 := Tryz.zeroValue3
  t4 := Tryz.underlying4
  a4 := Tryz.isAgg4
  z4 := Tryz.sizeOf4
  v4 := Tryz.zeroValue4
  t22 := Tryz.underlying22
  a22 := Tryz.isAgg22
  z22 := Tryz.sizeOf22
  v22 := Tryz.zeroValue22 }
def Tryz.del57_ren : Go.Shelf.Ren := ⟨fun | 10 => 57 | 6 => 88 | n => n, fun | 22 => 45 | 23 => 9 | 25 => 118 | 3 => 3 | 4 => 4 | 0 => 0 | n => n, fun | n => n⟩
theorem Tryz.del57 : Go.Proofs.SlLaysH.n10 Tryz.prog Tryz.del57_ren := {
  mixed := by kernel_rfl
  f6 := ⟨Tryz.f88.name, by decide, Tryz.func88.trans (congrArg some (by kernel_rfl))⟩
  f10 := ⟨Tryz.f57.name, by decide, Tryz.func57.trans (congrArg some (by kernel_rfl))⟩
  t0 := Tryz.underlying0
  a0 := Tryz.isAgg0
  z0 := Tryz.sizeOf0
  v0 := Tryz.zeroValue0
  t3 := Tryz.underlying3
  a3 := Tryz.isAgg3
  z3 := Tryz.sizeOf3
  v3 := Tryz.zeroValue3
  t4 := Tryz.underlying4
  a4 := Tryz.isAgg4
  z4 := Tryz.sizeOf4
  v4 := Tryz.zeroValue4
  t22 := Tryz.underlying45
  a22 := Tryz.isAgg45
  z22 := Tryz.sizeOf45
  v22 := Tryz.zeroValue45
  a23 := Tryz.isAgg9
  z23 := Tryz.sizeOf9
  t25 := Tryz.underlying118
  a25 := Tryz.isAgg118
  z25 := Tryz.sizeOf118
  v25 := Tryz.zeroValue118 }
def Tryz.ins133_ren : Go.Shelf.Ren := ⟨fun | 20 => 133 | n => n, fun | 24 => 9 | 22 => 45 | 3 => 3 | 25 => 121 | 4 => 4 | 0 => 0 | n => n, fun | n => n⟩
theorem Tryz.ins133 : Go.Proofs.SlLaysF.n20 Tryz.prog Tryz.ins133_ren := {
  mixed := by kernel_rfl
  f20 := ⟨Tryz.f133.name, by decide, Tryz.func133.trans (congrArg some (by kernel_rfl))⟩
  t0 := Tryz.underlying0
  a0 := Tryz.isAgg0
  z0 := Tryz.sizeOf0
  v0 := Tryz.zeroValue0
  t3 := Tryz.underlying3
  a3 := Tryz.isAgg3
  z3 := Tryz.sizeOf3
  v3 := Tryz.zeroValue3
  t4 := Tryz.underlying4
  a4 := Tryz.isAgg4
  z4 := Tryz.sizeOf4
  v4 := Tryz.zeroValue4
  t22 := Tryz.underlying45
  a22 := Tryz.isAgg45
  z22 := Tryz.sizeOf45
  v22 := Tryz.zeroValue45
  a24 := Tryz.isAgg9
  z24 := Tryz.sizeOf9
  t25 := Tryz.underlying121
  a25 := Tryz.isAgg121
  z25 := Tryz.sizeOf121
  v25 := Tryz.zeroValue121 }
theorem Tryz.sorts50 (m : Nat) : AnyZ.SortsIn Tryz.prog Tryz.sorted50_ren Fence.wide m :=
  ⟨fun blk off cap ss W hH hblk hsz => callsIn_wide.2 (AnyM.slices_Sort_string Tryz.sort20 blk off cap ss W hH hblk hsz),
   fun p cap W => callsIn_wide.2 (AnyM.slices_Sort_string_none Tryz.sort20 p cap W)⟩
theorem Tryz.maps_Keys_51 (mb : Option Nat) (W : World) : CallsIn Fence.wide 5 Tryz.prog 51 #[.map mb] W fun e w' => e = .returned (.func (.func 86) #[] #[.pointer (some ⟨W.heap.size, 0, none⟩)]) ∧ w' = W.alloc (.cells #[.map mb] 103) :=
  AnyZ.keys_in Tryz.keys51 Fence.wide 5 trivial rfl mb W
set_option maxHeartbeats 1000000 in
theorem Tryz.slices_Sorted_keys_50_51 {H : Type} (b nn : Nat) (D0 : DataW H) (R : Value → Option (DataW H × List MemPlace)) (w : World) (hown : w.ownsMap Tryz.prog 9 R b nn D0) (hmax : Maps.size D0 ≤ maxLen) (hbytes : Maps.size D0 * 16 ≤ 140737488355328) :
    CallsIn Fence.wide 5 Tryz.prog 50 #[.func (.func 86) #[] #[.pointer (some ⟨w.heap.size, 0, none⟩)]] (w.alloc (.cells #[.map (some b)] 103)) fun e w' => ∃ (v : Value) (ss : List (List UInt8)), e = .returned v ∧ ss.Perm (strKeys D0) ∧
      w'.ownsRow (w.alloc (.cells #[.map (some b)] 103)).heap.size 9 1 v ss.length ((ss.mergeSort (fun x y => decide (x ≤ y))).map encStr) ∧ (v = .slice none 0 0 ↔ ss = []) ∧ Below (w.alloc (.cells #[.map (some b)] 103)).heap.size (w.alloc (.cells #[.map (some b)] 103)) w' := by
  have hbl := hown.lt
  have hseq : SeqGives Fence.wide 2 Tryz.prog 86 #[.pointer (some ⟨w.heap.size, 0, none⟩)] encStr (fun ss => ss.Perm (strKeys D0)) (Maps.size D0) (w.alloc (.cells #[.map (some b)] 103)) :=
    AnyZ.keys_gives (ρ := Tryz.keys51_ren) { Tryz.keys51 with } Fence.wide _ trivial rfl (by omega) w.heap.size b nn D0 _ (by simp) (by simp) (by
      obtain ⟨es, clock, hb, Ft, hs, hD⟩ := hown
      exact ⟨es, clock, (Below.heap_alloc _ _ b hbl).trans hb, Ft, hs, hD⟩)
  exact AnyZ.sorted_in Tryz.sorted50 Fence.wide 5 trivial trivial trivial trivial rfl (by omega) (Tryz.sorts50 _) (enters_of Tryz.func20 (by kernel_rfl) rfl) 86 #[.pointer (some ⟨w.heap.size, 0, none⟩)] trivial (enters_of Tryz.func86 (by kernel_rfl) rfl) _ _ hmax hbytes _ hseq
set_option maxHeartbeats 1000000 in
theorem Tryz.slices_Sorted_keys_nil_50_51 (w : World) :
    CallsIn Fence.wide 5 Tryz.prog 50 #[.func (.func 86) #[] #[.pointer (some ⟨w.heap.size, 0, none⟩)]] (w.alloc (.cells #[.map none] 103)) fun e w' => ∃ (v : Value) (ss : List (List UInt8)), e = .returned v ∧ ss = [] ∧
      w'.ownsRow (w.alloc (.cells #[.map none] 103)).heap.size 9 1 v ss.length ((ss.mergeSort (fun x y => decide (x ≤ y))).map encStr) ∧ (v = .slice none 0 0 ↔ ss = []) ∧ Below (w.alloc (.cells #[.map none] 103)).heap.size (w.alloc (.cells #[.map none] 103)) w' := by
  have hseq : SeqGives Fence.wide 2 Tryz.prog 86 #[.pointer (some ⟨w.heap.size, 0, none⟩)] encStr (fun ss : List (List UInt8) => ss = []) 0 (w.alloc (.cells #[.map none] 103)) :=
    AnyZ.keys_gives_nil (ρ := Tryz.keys51_ren) { Tryz.keys51 with } Fence.wide _ trivial rfl w.heap.size _ (by simp) (by simp)
  exact AnyZ.sorted_in Tryz.sorted50 Fence.wide 5 trivial trivial trivial trivial rfl (by omega) (Tryz.sorts50 _) (enters_of Tryz.func20 (by kernel_rfl) rfl) 86 #[.pointer (some ⟨w.heap.size, 0, none⟩)] trivial (enters_of Tryz.func86 (by kernel_rfl) rfl) _ 0 (Nat.zero_le _) (by omega) _ hseq
theorem Tryz.maps_Keys_55 (mb : Option Nat) (W : World) : CallsIn Fence.wide 5 Tryz.prog 55 #[.map mb] W fun e w' => e = .returned (.func (.func 87) #[] #[.pointer (some ⟨W.heap.size, 0, none⟩)]) ∧ w' = W.alloc (.cells #[.map mb] 98) :=
  AnyZ.keys_in Tryz.keys55 Fence.wide 5 trivial rfl mb W
set_option maxHeartbeats 1000000 in
theorem Tryz.slices_Sorted_keys_50_55 {H : Type} (b nn : Nat) (D0 : DataW H) (R : Value → Option (DataW H × List MemPlace)) (w : World) (hown : w.ownsMap Tryz.prog 9 R b nn D0) (hmax : Maps.size D0 ≤ maxLen) (hbytes : Maps.size D0 * 16 ≤ 140737488355328) :
    CallsIn Fence.wide 5 Tryz.prog 50 #[.func (.func 87) #[] #[.pointer (some ⟨w.heap.size, 0, none⟩)]] (w.alloc (.cells #[.map (some b)] 98)) fun e w' => ∃ (v : Value) (ss : List (List UInt8)), e = .returned v ∧ ss.Perm (strKeys D0) ∧
      w'.ownsRow (w.alloc (.cells #[.map (some b)] 98)).heap.size 9 1 v ss.length ((ss.mergeSort (fun x y => decide (x ≤ y))).map encStr) ∧ (v = .slice none 0 0 ↔ ss = []) ∧ Below (w.alloc (.cells #[.map (some b)] 98)).heap.size (w.alloc (.cells #[.map (some b)] 98)) w' := by
  have hbl := hown.lt
  have hseq : SeqGives Fence.wide 2 Tryz.prog 87 #[.pointer (some ⟨w.heap.size, 0, none⟩)] encStr (fun ss => ss.Perm (strKeys D0)) (Maps.size D0) (w.alloc (.cells #[.map (some b)] 98)) :=
    AnyZ.keys_gives (ρ := Tryz.keys55_ren) { Tryz.keys55 with } Fence.wide _ trivial rfl (by omega) w.heap.size b nn D0 _ (by simp) (by simp) (by
      obtain ⟨es, clock, hb, Ft, hs, hD⟩ := hown
      exact ⟨es, clock, (Below.heap_alloc _ _ b hbl).trans hb, Ft, hs, hD⟩)
  exact AnyZ.sorted_in Tryz.sorted50 Fence.wide 5 trivial trivial trivial trivial rfl (by omega) (Tryz.sorts50 _) (enters_of Tryz.func20 (by kernel_rfl) rfl) 87 #[.pointer (some ⟨w.heap.size, 0, none⟩)] trivial (enters_of Tryz.func87 (by kernel_rfl) rfl) _ _ hmax hbytes _ hseq
set_option maxHeartbeats 1000000 in
theorem Tryz.slices_Sorted_keys_nil_50_55 (w : World) :
    CallsIn Fence.wide 5 Tryz.prog 50 #[.func (.func 87) #[] #[.pointer (some ⟨w.heap.size, 0, none⟩)]] (w.alloc (.cells #[.map none] 98)) fun e w' => ∃ (v : Value) (ss : List (List UInt8)), e = .returned v ∧ ss = [] ∧
      w'.ownsRow (w.alloc (.cells #[.map none] 98)).heap.size 9 1 v ss.length ((ss.mergeSort (fun x y => decide (x ≤ y))).map encStr) ∧ (v = .slice none 0 0 ↔ ss = []) ∧ Below (w.alloc (.cells #[.map none] 98)).heap.size (w.alloc (.cells #[.map none] 98)) w' := by
  have hseq : SeqGives Fence.wide 2 Tryz.prog 87 #[.pointer (some ⟨w.heap.size, 0, none⟩)] encStr (fun ss : List (List UInt8) => ss = []) 0 (w.alloc (.cells #[.map none] 98)) :=
    AnyZ.keys_gives_nil (ρ := Tryz.keys55_ren) { Tryz.keys55 with } Fence.wide _ trivial rfl w.heap.size _ (by simp) (by simp)
  exact AnyZ.sorted_in Tryz.sorted50 Fence.wide 5 trivial trivial trivial trivial rfl (by omega) (Tryz.sorts50 _) (enters_of Tryz.func20 (by kernel_rfl) rfl) 87 #[.pointer (some ⟨w.heap.size, 0, none⟩)] trivial (enters_of Tryz.func87 (by kernel_rfl) rfl) _ 0 (Nat.zero_le _) (by omega) _ hseq
end Go.Proofs

/- (*symbols.Table).Names; the sorted keys of a map. -/
namespace Go.Proofs.YtnjpfhihbjihbaaGreatDoor
open Go.RowKit Go.Sort

open Go.ChangeMaps Go.Maps
theorem own_base {w : World} {b b' : Nat} {e : TypeId} {size : Nat} {v : Value} {n : Nat} {xs : List Value} (h : w.ownsRow b e size v n xs) (hb : b' ≤ b) : w.ownsRow b' e size v n xs := by
  obtain ⟨h1, h2⟩ := h
  refine ⟨h1, ?_⟩
  rcases h2 with h2 | ⟨g, cap, cur, a1, a2, a3⟩
  · exact .inl h2
  · exact .inr ⟨g, cap, cur, a1, Nat.le_trans hb a2, a3⟩
/-- How a value reads here: as nothing. -/
def noRead : Value → Option (DataW Unit × List MemPlace) := fun _ => some (.nil, [])
theorem SMap.own {P : Program} {K : TypeId} (hk : P.underlying K = some .string) {w : World} {b : Nat} {l : List (ByteArray × Value)} (h : SMap w b l) (hl : l.length ≤ maxLen) (hs : ∀ x ∈ l, x.1.size ≤ maxLen) :
    ∃ D : DataW Unit, w.ownsMap P K noRead b l.length D ∧ Maps.size D = l.length ∧ (strKeys D).Perm (l.map fun x => x.1.data.toList) := by
  obtain ⟨es, c, hb, he, hst⟩ := h
  have hlen : es.size = l.length := by
    have := congrArg List.length he
    simpa using this
  have hkey : ∀ x ∈ es.toList, ∃ y ∈ l, x.key = .string y.1 := fun x hx => by
    have h1 : ekv x ∈ es.toList.map ekv := List.mem_map_of_mem hx
    rw [he] at h1
    obtain ⟨y, hy, e⟩ := List.mem_map.1 h1
    exact ⟨y, hy, (congrArg Prod.fst e).symm⟩
  have hrd : ∀ x ∈ es.toList, ∃ y ∈ l, x.key = .string y.1 ∧ Go.WideElems.rd P K noRead x = some (.string y.1.data.toList, .nil) := fun x hx => by
    obtain ⟨y, hy, e⟩ := hkey x hx
    refine ⟨y, hy, e, ?_⟩
    unfold Go.WideElems.rd
    rw [e, Go.WideMaps.keyOf_string_mk hk (hs y hy)]
    rfl
  refine ⟨.map ((es.toList.map (Go.WideElems.rg P K noRead)).foldr DataW.insert []), ⟨es, c, hb, ⟨by rw [hlen]; exact hl, hst, fun x hx => by obtain ⟨y, _, _, h⟩ := hrd x hx; exact ⟨_, h⟩⟩, by omega, rfl⟩, ?_, ?_⟩
  · rw [size_eq, (Go.WideShapes.sorted_perm _).length_eq, List.length_map, Array.length_toList, hlen]
  · have hp := (Go.WideShapes.sorted_perm (es.toList.map (Go.WideElems.rg P K noRead))).map (fun p : Lit × DataW Unit => strOf p.1)
    refine hp.trans (List.Perm.of_eq ?_)
    have hl2 : l.map (fun x => x.1.data.toList) = (es.toList.map ekv).map fun p => strOf (match p.1 with | .string s => .string s.data.toList | _ => .bool false) := by
      rw [he, List.map_map]
      rfl
    rw [hl2, List.map_map, List.map_map]
    refine List.map_congr_left fun x hx => ?_
    obtain ⟨y, _, e, h⟩ := hrd x hx
    simp only [Function.comp_apply, Go.WideElems.rg, h, Option.getD_some, e]
/-- The names of a table, in order. -/
def sortL (l : List (List UInt8)) : List (List UInt8) := l.mergeSort fun x y => decide (x ≤ y)
theorem sortL_perm {l m : List (List UInt8)} (h : l.Perm m) : sortL l = sortL m := mergeSort_of_perm h
theorem sortL_mem (l : List (List UInt8)) (x : List UInt8) : x ∈ sortL l ↔ x ∈ l := List.mem_mergeSort
theorem sortL_len (l : List (List UInt8)) : (sortL l).length = l.length := List.length_mergeSort _
/-- What Names leaves. -/
def NmRes (ns : List (List UInt8)) (w : World) (e : Ending) (w' : World) : Prop := ∃ v, e = .returned v ∧ w'.ownsRow w.heap.size 9 1 v (sortL ns).length ((sortL ns).map Proofs.encStr) ∧ (v = .slice none 0 0 ↔ sortL ns = []) ∧ Below w.heap.size w w'
set_option maxHeartbeats 1000000 in
theorem namesT_nil (w : World) : Calls Tryz.prog 22 #[.pointer none] w fun e w' => e = .returned (.slice none 0 0) ∧ Below w.heap.size w w' := by
  go_enter Tryz.func22, Tryz.ntmps22
  go_wp2_with fail
  go_ret
  exact ⟨rfl, by (repeat (first | exact Below.refl _ _ | refine Below.drew ?_ | (refine below_gw' ?_ (by first | omega | (simp [go_sem]; done) | (simp [go_sem]; omega)) _) | (refine Below.alloc ?_ (by first | omega | (simp [go_sem]; done) | (simp [go_sem]; omega)) _) | (refine Below.setCell ?_ (by first | omega | (simp [go_sem]; done) | (simp [go_sem]; omega)) _)))⟩
set_option maxHeartbeats 1000000 in
theorem namesT_any (g b : Nat) (M : List (Sy × Value)) (hM : M.length ≤ 1000) (hs : ∀ x ∈ M, x.1.name.size ≤ 1000) (w : World) (hT : TabIn w g b M) :
    Calls Tryz.prog 22 #[.pointer (some ⟨g, 0, none⟩)] w (NmRes (M.map fun x => x.1.name.data.toList) w) := by
  have c1 := hT.cell
  have hg : g < w.heap.size := lt_of_block hT.head
  obtain ⟨D, hown, hsz, hperm⟩ := hT.map.own (P := Tryz.prog) Tryz.underlying9 (by rw [List.length_map]; unfold maxLen; omega) (fun x hx => by obtain ⟨y, hy, rfl⟩ := List.mem_map.1 hx; have := hs y hy; show y.1.name.size ≤ _; unfold maxLen; omega)
  rw [List.length_map] at hsz
  have hkeys := fun w => callsIn_wide.1 (Tryz.maps_Keys_51 (some b) w)
  have hsort := callsIn_wide.1 (Tryz.slices_Sorted_keys_50_51 b _ D noRead w hown (by rw [hsz]; unfold maxLen; omega) (by rw [hsz]; omega))
  have hp2 : sortL (strKeys D) = sortL (M.map fun x => x.1.name.data.toList) := by
    refine sortL_perm (hperm.trans (List.Perm.of_eq ?_))
    rw [List.map_map]; rfl
  have HP := Lib.hid hp2
  have HK := Lib.hid hkeys
  have HS := Lib.hid hsort
  clear hkeys hsort hp2 hperm hown hsz hT
  go_enter Tryz.func22, Tryz.ntmps22
  go_wp2_with fail
  (with_reducible refine (HK.out _).mono ?_)
  rintro e w1 ⟨rfl, rfl⟩
  go_wp2_with fail
  (with_reducible refine HS.out.mono ?_)
  rintro e w2 ⟨v, ss, rfl, hperm, hrow, hnil, hb⟩
  have hss : sortL ss = sortL (M.map fun x => x.1.name.data.toList) := by rw [← HP.out]; exact sortL_perm hperm
  have HSS := Lib.hid hss
  have HROW := Lib.hid hrow
  have HNIL := Lib.hid hnil
  have HB : Hid (Below w.heap.size w w2) := Lib.hid (Below.trans (b := w.alloc (.cells #[.map (some b)] 103)) (by (repeat (first | exact Below.refl _ _ | refine Below.drew ?_ | (refine below_gw' ?_ (by first | omega | (simp [go_sem]; done) | (simp [go_sem]; omega)) _) | (refine Below.alloc ?_ (by first | omega | (simp [go_sem]; done) | (simp [go_sem]; omega)) _) | (refine Below.setCell ?_ (by first | omega | (simp [go_sem]; done) | (simp [go_sem]; omega)) _)))) (hb.mono (by show _ ≤ (w.heap.push _).size; simp)))
  clear hss hrow hnil hb hperm
  go_wp2_with fail
  go_ret
  refine ⟨v, rfl, ?_, ?_, HB.out⟩
  · rw [← HSS.out, sortL_len]
    exact own_base HROW.out (by show _ ≤ (w.heap.push _).size; simp)
  · rw [HNIL.out, ← HSS.out]
    constructor
    · rintro rfl; exact List.eq_nil_of_length_eq_zero (sortL_len [])
    · intro h
      have := sortL_len ss
      rw [h] at this
      exact List.eq_nil_of_length_eq_zero (by simpa using this.symm)
end Go.Proofs.YtnjpfhihbjihbaaGreatDoor

/- append onto a row of one's own, the source a row that may be nil: a step of a walk. -/
namespace Go.Proofs.YtnjpfhihbjihbaaGreatDoor
open Go.RowKit Go.Sort

open Go.ChangeMaps
theorem wpList_append_src {P : Program} {w : World} {ops : Array Oper} {rest : List Oper} {o : Oper} {a : Act} {Q : Exit → Act → World → Prop} (hgd : o.guard = none) (s x : Operand) (t : TypeId)
    (ho : o.op = .call { callee := .builtin .append, args := #[s, x], argTypes := #[t, t] })
    (base : Nat) (e : TypeId) (i : TypeInfo) (z : Value) (size bytes : Nat) (ht : P.underlying t = some (.slice e)) (hi : P.info? e = some i) (hz : i.zero = some z)
    (hsize : i.size = size) (hby : i.bytes = bytes) (hzs : z.cells.size = size) (hsz : 0 < size)
    (v : Value) (n : Nat) (xs : List Value) (hs : a.eval s = v) (hown : w.ownsRow base e size v n xs)
    (v2 : Value) (m : Nat) (news : List Value) (hx : a.eval x = v2) (hsrc : SrcAt w v2 m news) (hl : news.length = m * size) (h1 : ∀ u ∈ news, u.oneCell' = true)
    (h63 : n + m ≤ maxLen) (hbytes : (n + m) * bytes ≤ 140737488355328) (hbase : base ≤ w.heap.size)
    (h : ∀ v' w', w'.ownsRow base e size v' (n + m) (xs ++ news) → w.grownBy w' v.ownBlock → (v' = .slice none 0 0 ↔ v = .slice none 0 0 ∧ m = 0) → wpList P ops Q rest (a.put o.dst v') w') : wpList P ops Q (o :: rest) a w := by
  refine wpList_plain hgd fun _ hK => ?_
  rcases hsrc with ⟨rfl, rfl⟩ | ⟨ad, c, rfl, hc⟩
  · have hn : news = [] := List.eq_nil_of_length_eq_zero (by simpa using hl)
    subst hn
    have hrun := run_append_owned_none (P := P) (w := w) base t o.type e i size ht hi v n xs hown
    unfold Oper.wp
    simp [execOp, ho, resolve, invoke, builtin, hs, hx, hrun, Result.andThen]
    exact hK _ _ (h v w (by simpa using hown) (World.grownBy.refl w _) (by simp))
  · exact wp_append_own w s x t ho base e i z size bytes ht hi hz hsize hby hzs hsz v n xs hs hown ad m c news hx hl hc h1 h63 hbytes hbase fun v' w' h2 h3 h4 => hK _ _ (h v' w' h2 h3 h4)
end Go.Proofs.YtnjpfhihbjihbaaGreatDoor

/- What two built tables give. -/
namespace Go.Proofs.YtnjpfhihbjihbaaGreatDoor
open Go.RowKit Go.Sort

open Go.ChangeMaps
theorem bthen2 {w u v : World} (h : Below w.heap.size w u) (k : Below u.heap.size u v) : Below w.heap.size w v := h.trans (k.mono h.size)
theorem symD_name {d : Dfn} {s : Sy} (h : symD d = some s) : s.name.size ≤ 50 := by
  obtain ⟨ex, rfl⟩ := symD_form h
  unfold symD at h
  split at h
  · rename_i hs; exact hs.1
  · cases h
theorem foldD_names : ∀ (l : List Dfn) (L M : List Sy), (∀ s ∈ L, s.name.size ≤ 50) → foldD L l = some M → ∀ s ∈ M, s.name.size ≤ 50
  | [], L, M, h, hf => by cases hf; exact h
  | d :: l, L, M, h, hf => by
    unfold foldD at hf
    split at hf
    · cases hf
    · rename_i N hN
      refine foldD_names l N M ?_ hf
      unfold stepD at hN
      rcases hd : symD d with _ | s
      · rw [hd] at hN; cases hN
      · rw [hd, Option.map_some, Option.some.injEq] at hN
        split at hN
        · subst hN; exact h
        · subst hN
          intro x hx
          rcases List.mem_append.1 hx with hx | hx
          · exact h x hx
          · rw [List.mem_singleton] at hx; subst hx; exact symD_name hd
theorem tableD_names {l : List Dfn} {L : List Sy} (h : tableD l = some L) : ∀ s ∈ L, s.name.size ≤ 50 := by
  unfold tableD at h
  split at h
  · cases h
  · exact foldD_names l [] L (fun s hs => by cases hs) h
theorem enc_self (s : ByteArray) : Proofs.encStr s.data.toList = .string s := by
  show Value.string ⟨s.data.toList.toArray⟩ = .string s
  simp
/-- What the tables give. -/
structure Tabs20P (w : World) (g b : Nat) (rv : Value) (L : List Sy) (M R : List (Sy × Value)) : Prop where
  ti : TabIn w g b M
  hm : M.map Prod.fst = L.map Sy.norm
  rt : RTab w rv R
  hr : R.map Prod.fst = L
  okM : ∀ y ∈ M, SyOk y.1
  okR : ∀ y ∈ R, SyOk y.1
  ndR : ((R.map Prod.fst).map Sy.name).Nodup
  lenR : R.length ≤ 1000
  lenM : M.length ≤ 1000
  nmM : ∀ y ∈ M, y.1.name.size ≤ 1000
  nmsM : (M.map fun x => x.1.name.data.toList) = L.map fun s => s.name.data.toList
theorem Tabs20.parts {w : World} {g b : Nat} {rv : Value} {l : List Dfn} {L : List Sy} (h : Tabs20 w g b rv L) (hL : tableD l = some L) : ∃ M R, Tabs20P w g b rv L M R := by
  obtain ⟨M, R, hTI, hM, hRT, hR0, hnil⟩ := h
  have htab := tableD_ok hL
  have hnm := tableD_names hL
  have hmem : ∀ y ∈ M, ∃ s ∈ L, y.1 = s.norm := fun y hy => by
    have h1 : y.1 ∈ M.map Prod.fst := List.mem_map_of_mem hy
    rw [hM] at h1
    obtain ⟨s', hs', e⟩ := List.mem_map.1 h1
    exact ⟨s', hs', e.symm⟩
  refine ⟨M, R, hTI, hM, hRT, hR0, fun y hy => ?_, fun y hy => htab.1.ok _ (by rw [← hR0]; exact List.mem_map_of_mem hy), by rw [hR0]; exact htab.1.nodup, ?_, ?_, fun y hy => ?_, ?_⟩
  · obtain ⟨s, hs, e⟩ := hmem y hy
    rw [e]; exact norm_ok (htab.1.ok s hs)
  · have := htab.2
    rw [← hR0, List.length_map] at this
    omega
  · have h1 := congrArg List.length hM
    rw [List.length_map, List.length_map] at h1
    have := htab.2
    omega
  · obtain ⟨s, hs, e⟩ := hmem y hy
    rw [e, norm_name]
    have := hnm s hs
    omega
  · have h1 : (M.map fun x => x.1.name.data.toList) = (M.map Prod.fst).map fun s => s.name.data.toList := by rw [List.map_map]; rfl
    rw [h1, hM, List.map_map]
    exact List.map_congr_left fun s _ => by simp only [Function.comp_apply, norm_name]
theorem Tabs20P.below {w w' : World} {g b : Nat} {rv : Value} {L : List Sy} {M R : List (Sy × Value)} (h : Tabs20P w g b rv L M R) (hb : Below w.heap.size w w') : Tabs20P w' g b rv L M R :=
  ⟨h.ti.below hb, h.hm, h.rt.below hb, h.hr, h.okM, h.okR, h.ndR, h.lenR, h.lenM, h.nmM, h.nmsM⟩
theorem Tabs20P.known {w : World} {g b : Nat} {rv : Value} {L : List Sy} {M R : List (Sy × Value)} (h : Tabs20P w g b rv L M R) :
    Calls Tryz.prog 19 #[.pointer (some ⟨g, 0, none⟩)] w fun e w' => ∃ m, e = .returned m ∧ KnMap w' L m ∧ Below w.heap.size w w' :=
  (known_any g b M h.okM w h.ti).mono fun e w' ⟨m, h1, h2, h3⟩ => ⟨m, h1, by
    obtain ⟨bo, lO, q1, q2, q3⟩ := h2
    refine ⟨bo, lO, q1, q2, fun t => ?_⟩
    rw [q3, h.hm, norm_Kn], h3⟩
theorem Tabs20P.rknown {w : World} {g b : Nat} {rv : Value} {L : List Sy} {M R : List (Sy × Value)} (h : Tabs20P w g b rv L M R) :
    Calls Tryz.prog 15 #[rv] w fun e w' => ∃ vo, e = .returned vo ∧ Row w' vo (knownR L).length (valc (knownR L)) ∧ Below w.heap.size w w' := by
  have := known20_any R rv w h.rt h.lenR h.okR h.ndR
  rw [h.hr] at this
  exact this
theorem Tabs20P.same {w : World} {g b : Nat} {rv : Value} {L : List Sy} {M R : List (Sy × Value)} (h : Tabs20P w g b rv L M R) (m v : Value) (w' : World) (hm : KnMap w' L m) (hr : Row w' v (knownR L).length (valc (knownR L))) :
    Calls Tryz.prog 18 #[m, v] w' fun e w'' => e = .returned (.bool true) ∧ Below w'.heap.size w' w'' := by
  have hn : (L.map Sy.name).Nodup := by rw [← h.hr]; exact h.ndR
  refine same20_any L (knownR L) (knownR_env hn) (knownR_nodup hn) (Nat.le_trans (knownR_len hn) ?_) m v w' hm hr
  have := h.lenR
  rw [← h.hr, List.length_map]; omega
theorem Tabs20P.names {w : World} {g b : Nat} {rv : Value} {L : List Sy} {M R : List (Sy × Value)} (h : Tabs20P w g b rv L M R) :
    Calls Tryz.prog 22 #[.pointer (some ⟨g, 0, none⟩)] w (NmRes (L.map fun s => s.name.data.toList) w) := by
  rw [← h.nmsM]
  exact namesT_any g b M h.lenM h.nmM w h.ti
end Go.Proofs.YtnjpfhihbjihbaaGreatDoor
