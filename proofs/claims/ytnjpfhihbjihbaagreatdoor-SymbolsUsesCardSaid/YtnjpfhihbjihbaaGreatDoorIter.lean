/- The library's contracts on the sorted keys of a map at this translation: written by the guide's lay-iter and lay-plain; remarks are left out. -/
import Derived.Shelf.SlIter.Nil
import Derived.Shelf.SortM.Plain
import Derived.Shelf.SortM.SortNone
import Derived.Ground.GgzProg
import Derived.Ground.SlgmProg
import Derived.Test.YtnjpfhihbjihbaaGreatDoorProg
namespace Go.Proofs
open Go.RowKit Go.Maps Go.Sort Go.Shelf
def Tryz.keys51_ren : Go.Shelf.Ren := ⟨fun | 7 => 51 | 10 => 86 | n => n, fun | 23 => 103 | 26 => 9 | 3 => 101 | 28 => 112 | 0 => 0 | 27 => 111 | 33 => 118 | 4 => 4 | n => n, fun | n => n⟩
theorem Tryz.keys51 : Go.Proofs.SlLaysZ.n7 Tryz.prog Tryz.keys51_ren := {
  mixed := by kernel_rfl
  f7 := ⟨Tryz.f51.name, by decide, Tryz.func51.trans (congrArg some (by kernel_rfl))⟩
  f10 := ⟨Tryz.f86.name, by decide, Tryz.func86.trans (congrArg some (by kernel_rfl))⟩
  t0 := Tryz.underlying0
  a0 := Tryz.isAgg0
  z0 := Tryz.sizeOf0
  v0 := Tryz.zeroValue0
  t4 := Tryz.underlying4
  a4 := Tryz.isAgg4
  z4 := Tryz.sizeOf4
  v4 := Tryz.zeroValue4
  t23 := Tryz.underlying103
  a23 := Tryz.isAgg103
  z23 := Tryz.sizeOf103
  v23 := Tryz.zeroValue103
  t26 := Tryz.underlying9
  a26 := Tryz.isAgg9
  z26 := Tryz.sizeOf9
  v26 := Tryz.zeroValue9
  t27 := Tryz.underlying111
  a27 := Tryz.isAgg111
  z27 := Tryz.sizeOf111
  v27 := Tryz.zeroValue111
  t28 := Tryz.underlying112
  a28 := Tryz.isAgg112
  z28 := Tryz.sizeOf112
  v28 := Tryz.zeroValue112
  t33 := Tryz.underlying118
  a33 := Tryz.isAgg118
  z33 := Tryz.sizeOf118
  v33 := Tryz.zeroValue118 }
def Tryz.sorted50_ren : Go.Shelf.Ren := ⟨fun | 6 => 50 | 8 => 85 | 9 => 20 | 11 => 132 | 13 => 49 | 12 => 48 | 23 => 83 | 24 => 84 | 14 => 74 | 15 => 75 | 16 => 76 | 17 => 77 | 18 => 78 | 19 => 79 | 20 => 80 | 21 => 81 | 22 => 82 | 25 => 126 | 26 => 127 | 27 => 128 | 28 => 129 | 29 => 130 | 30 => 131 | 31 => 157 | n => n, fun | 26 => 9 | 28 => 112 | 24 => 45 | 0 => 0 | 3 => 3 | 37 => 109 | 48 => 164 | 50 => 166 | 4 => 4 | 40 => 157 | 39 => 156 | 45 => 57 | 5 => 5 | 9 => 9 | 51 => 194 | 55 => 198 | 57 => 217 | 58 => 40 | 33 => 118 | n => n, fun | n => n⟩
theorem Tryz.sorted50 : Go.Proofs.SlLaysZ.n6 Tryz.prog Tryz.sorted50_ren := {
  mixed := by kernel_rfl
  f6 := ⟨Tryz.f50.name, by decide, Tryz.func50.trans (congrArg some (by kernel_rfl))⟩
  f8 := ⟨Tryz.f85.name, by decide, Tryz.func85.trans (congrArg some (by kernel_rfl))⟩
  f11 := ⟨Tryz.f132.name, by decide, Tryz.func132.trans (congrArg some (by kernel_rfl))⟩
  t0 := Tryz.underlying0
  a0 := Tryz.isAgg0
  z0 := Tryz.sizeOf0
  v0 := Tryz.zeroValue0
  t24 := Tryz.underlying45
  a24 := Tryz.isAgg45
  z24 := Tryz.sizeOf45
  v24 := Tryz.zeroValue45
  t26 := Tryz.underlying9
  a26 := Tryz.isAgg9
  z26 := Tryz.sizeOf9
  v26 := Tryz.zeroValue9
  t28 := Tryz.underlying112
  a28 := Tryz.isAgg112
  z28 := Tryz.sizeOf112
  v28 := Tryz.zeroValue112
  i26 := by kernel_rfl }
def Tryz.sort20_ren : Go.Shelf.Ren := ⟨fun | 6 => 20 | 8 => 49 | 9 => 48 | 19 => 83 | 20 => 84 | 21 => 74 | 22 => 75 | 23 => 76 | 24 => 77 | 25 => 78 | 26 => 79 | 27 => 80 | 28 => 81 | 29 => 82 | 36 => 126 | 31 => 127 | 32 => 128 | 37 => 129 | 38 => 130 | 39 => 131 | 41 => 157 | n => n, fun | 27 => 45 | 29 => 9 | 3 => 3 | 32 => 109 | 26 => 45 | 0 => 0 | 44 => 164 | 46 => 166 | 4 => 4 | 36 => 157 | 35 => 156 | 41 => 57 | 5 => 5 | 9 => 9 | 53 => 194 | 57 => 198 | 63 => 217 | 64 => 40 | n => n, fun | n => n⟩
theorem Tryz.sort20 : Go.Proofs.SlLaysM.n6 Tryz.prog Tryz.sort20_ren := {
  mixed := by kernel_rfl
  f6 := ⟨Tryz.f20.name, by decide, Tryz.func20.trans (congrArg some (by kernel_rfl))⟩
  f8 := Tryz.func49.trans (congrArg some (by kernel_rfl))
  f9 := ⟨Tryz.f48.name, by decide, Tryz.func48.trans (congrArg some (by kernel_rfl))⟩
  f19 := Tryz.func83.trans (congrArg some (by kernel_rfl))
  f20 := Tryz.func84.trans (congrArg some (by kernel_rfl))
  f21 := ⟨Tryz.f74.name, by decide, Tryz.func74.trans (congrArg some (by kernel_rfl))⟩
  f22 := ⟨Tryz.f75.name, by decide, Tryz.func75.trans (congrArg some (by kernel_rfl))⟩
  f23 := ⟨Tryz.f76.name, by decide, Tryz.func76.trans (congrArg some (by kernel_rfl))⟩
  f24 := ⟨Tryz.f77.name, by decide, Tryz.func77.trans (congrArg some (by kernel_rfl))⟩
  f25 := ⟨Tryz.f78.name, by decide, Tryz.func78.trans (congrArg some (by kernel_rfl))⟩
  f26 := ⟨Tryz.f79.name, by decide, Tryz.func79.trans (congrArg some (by kernel_rfl))⟩
  f27 := ⟨Tryz.f80.name, by decide, Tryz.func80.trans (congrArg some (by kernel_rfl))⟩
  f28 := ⟨Tryz.f81.name, by decide, Tryz.func81.trans (congrArg some (by kernel_rfl))⟩
  f29 := ⟨Tryz.f82.name, by decide, Tryz.func82.trans (congrArg some (by kernel_rfl))⟩
  f31 := Tryz.func127.trans (congrArg some (by kernel_rfl))
  f32 := Tryz.func128.trans (congrArg some (by kernel_rfl))
  f36 := ⟨Tryz.f126.name, by decide, Tryz.func126.trans (congrArg some (by kernel_rfl))⟩
  f37 := ⟨Tryz.f129.name, by decide, Tryz.func129.trans (congrArg some (by kernel_rfl))⟩
  f38 := ⟨Tryz.f130.name, by decide, Tryz.func130.trans (congrArg some (by kernel_rfl))⟩
  f39 := ⟨Tryz.f131.name, by decide, Tryz.func131.trans (congrArg some (by kernel_rfl))⟩
  f41 := ⟨Tryz.f157.name, by decide, Tryz.func157.trans (congrArg some (by kernel_rfl))⟩
  t0 := Tryz.underlying0
  a0 := Tryz.isAgg0
  z0 := Tryz.sizeOf0
  v0 := Tryz.zeroValue0
  t3 := Tryz.underlying3
  a3 := Tryz.isAgg3
  z3 := Tryz.sizeOf3
  v3 := Tryz.zeroValue3
  t4 := Tryz.underlying4
  a4 := Tryz.isAgg4
  z4 := Tryz.sizeOf4
  v4 := Tryz.zeroValue4
  t5 := Tryz.underlying5
  a5 := Tryz.isAgg5
  z5 := Tryz.sizeOf5
  v5 := Tryz.zeroValue5
  t9 := Tryz.underlying9
  a9 := Tryz.isAgg9
  z9 := Tryz.sizeOf9
  v9 := Tryz.zeroValue9
  t26 := Tryz.underlying45
  a26 := Tryz.isAgg45
  z26 := Tryz.sizeOf45
  v26 := Tryz.zeroValue45
  t27 := Tryz.underlying45
  a27 := Tryz.isAgg45
  z27 := Tryz.sizeOf45
  v27 := Tryz.zeroValue45
  t29 := Tryz.underlying9
  a29 := Tryz.isAgg9
  z29 := Tryz.sizeOf9
  v29 := Tryz.zeroValue9
  t32 := Tryz.underlying109
  a32 := Tryz.isAgg109
  z32 := Tryz.sizeOf109
  v32 := Tryz.zeroValue109
  t35 := Tryz.underlying156
  a35 := Tryz.isAgg156
  z35 := Tryz.sizeOf156
  v35 := Tryz.zeroValue156
  t36 := Tryz.underlying157
  a36 := Tryz.isAgg157
  z36 := Tryz.sizeOf157
  v36 := Tryz.zeroValue157
  t41 := Tryz.underlying57
  a41 := Tryz.isAgg57
  z41 := Tryz.sizeOf57
  v41 := Tryz.zeroValue57
  t44 := Tryz.underlying164
  a44 := Tryz.isAgg164
  z44 := Tryz.sizeOf164
  v44 := Tryz.zeroValue164
  t46 := Tryz.underlying166
  a46 := Tryz.isAgg166
  z46 := Tryz.sizeOf166
  v46 := Tryz.zeroValue166
  t53 := Tryz.underlying194
  a53 := Tryz.isAgg194
  z53 := Tryz.sizeOf194
  v53 := Tryz.zeroValue194
  t57 := Tryz.underlying198
  a57 := Tryz.isAgg198
  z57 := Tryz.sizeOf198
  v57 := Tryz.zeroValue198
  t63 := Tryz.underlying217
  a63 := Tryz.isAgg217
  z63 := Tryz.sizeOf217
  v63 := Tryz.zeroValue217
  t64 := Tryz.underlying40
  a64 := Tryz.isAgg40
  z64 := Tryz.sizeOf40
  v64 := Tryz.zeroValue40 }
def Tryz.keys55_ren : Go.Shelf.Ren := ⟨fun | 7 => 55 | 10 => 87 | n => n, fun | 23 => 98 | 26 => 9 | 3 => 4 | 28 => 112 | 0 => 0 | 27 => 111 | 33 => 118 | 4 => 4 | n => n, fun | n => n⟩
theorem Tryz.keys55 : Go.Proofs.SlLaysZ.n7 Tryz.prog Tryz.keys55_ren := {
  mixed := by kernel_rfl
  f7 := ⟨Tryz.f55.name, by decide, Tryz.func55.trans (congrArg some (by kernel_rfl))⟩
  f10 := ⟨Tryz.f87.name, by decide, Tryz.func87.trans (congrArg some (by kernel_rfl))⟩
  t0 := Tryz.underlying0
  a0 := Tryz.isAgg0
  z0 := Tryz.sizeOf0
  v0 := Tryz.zeroValue0
  t4 := Tryz.underlying4
  a4 := Tryz.isAgg4
  z4 := Tryz.sizeOf4
  v4 := Tryz.zeroValue4
  t23 := Tryz.underlying98
  a23 := Tryz.isAgg98
  z23 := Tryz.sizeOf98
  v23 := Tryz.zeroValue98
  t26 := Tryz.underlying9
  a26 := Tryz.isAgg9
  z26 := Tryz.sizeOf9
  v26 := Tryz.zeroValue9
  t27 := Tryz.underlying111
  a27 := Tryz.isAgg111
  z27 := Tryz.sizeOf111
  v27 := Tryz.zeroValue111
  t28 := Tryz.underlying112
  a28 := Tryz.isAgg112
  z28 := Tryz.sizeOf112
  v28 := Tryz.zeroValue112
  t33 := Tryz.underlying118
  a33 := Tryz.isAgg118
  z33 := Tryz.sizeOf118
  v33 := Tryz.zeroValue118 }
theorem Tryz.sorts50 (m : Nat) : AnyZ.SortsIn Tryz.prog Tryz.sorted50_ren Fence.wide m :=
  ⟨fun blk off cap ss W hH hblk hsz => callsIn_wide.2 (AnyM.slices_Sort_string Tryz.sort20 blk off cap ss W hH hblk hsz),
   fun p cap W => callsIn_wide.2 (AnyM.slices_Sort_string_none Tryz.sort20 p cap W)⟩
theorem Tryz.maps_Keys_51 (mb : Option Nat) (W : World) : CallsIn Fence.wide 5 Tryz.prog 51 #[.map mb] W fun e w' => e = .returned (.func (.func 86) #[] #[.pointer (some ⟨W.heap.size, 0, none⟩)]) ∧ w' = W.alloc (.cells #[.map mb] 103) :=
  AnyZ.keys_in Tryz.keys51 Fence.wide 5 trivial rfl mb W
set_option maxHeartbeats 1000000 in
theorem Tryz.slices_Sorted_keys_50_51 {H : Type} (b nn : Nat) (D0 : DataW H) (R : Value → Option (DataW H × List MemPlace)) (w : World) (hown : w.ownsMap Tryz.prog 9 R b nn D0) (hmax : Maps.size D0 ≤ maxLen) (hbytes : Maps.size D0 * 16 ≤ 140737488355328) :
    CallsIn Fence.wide 5 Tryz.prog 50 #[.func (.func 86) #[] #[.pointer (some ⟨w.heap.size, 0, none⟩)]] (w.alloc (.cells #[.map (some b)] 103)) fun e w' => ∃ (v : Value) (ss : List (List UInt8)), e = .returned v ∧ ss.Perm (strKeys D0) ∧
      w'.ownsRow (w.alloc (.cells #[.map (some b)] 103)).heap.size 9 1 v ss.length ((ss.mergeSort (fun x y => decide (x ≤ y))).map encStr) ∧ (v = .slice none 0 0 ↔ ss = []) ∧ Below (w.alloc (.cells #[.map (some b)] 103)).heap.size (w.alloc (.cells #[.map (some b)] 103)) w' := by
  have hbl := hown.lt
  have hseq : SeqGives Fence.wide 2 Tryz.prog 86 #[.pointer (some ⟨w.heap.size, 0, none⟩)] encStr (fun ss => ss.Perm (strKeys D0)) (Maps.size D0) (w.alloc (.cells #[.map (some b)] 103)) :=
    AnyZ.keys_gives (ρ := Tryz.keys51_ren) { Tryz.keys51 with } Fence.wide _ trivial rfl (by omega) w.heap.size b nn D0 _ (by simp) (by simp) (by
      obtain ⟨es, clock, hb, Ft, hs, hD⟩ := hown
      exact ⟨es, clock, (Below.heap_alloc _ _ b hbl).trans hb, Ft, hs, hD⟩)
  exact AnyZ.sorted_in Tryz.sorted50 Fence.wide 5 trivial trivial trivial trivial rfl (by omega) (Tryz.sorts50 _) (enters_of Tryz.func20 (by kernel_rfl) rfl) 86 #[.pointer (some ⟨w.heap.size, 0, none⟩)] trivial (enters_of Tryz.func86 (by kernel_rfl) rfl) _ _ hmax hbytes _ hseq
set_option maxHeartbeats 1000000 in
theorem Tryz.slices_Sorted_keys_nil_50_51 (w : World) :
    CallsIn Fence.wide 5 Tryz.prog 50 #[.func (.func 86) #[] #[.pointer (some ⟨w.heap.size, 0, none⟩)]] (w.alloc (.cells #[.map none] 103)) fun e w' => ∃ (v : Value) (ss : List (List UInt8)), e = .returned v ∧ ss = [] ∧
      w'.ownsRow (w.alloc (.cells #[.map none] 103)).heap.size 9 1 v ss.length ((ss.mergeSort (fun x y => decide (x ≤ y))).map encStr) ∧ (v = .slice none 0 0 ↔ ss = []) ∧ Below (w.alloc (.cells #[.map none] 103)).heap.size (w.alloc (.cells #[.map none] 103)) w' := by
  have hseq : SeqGives Fence.wide 2 Tryz.prog 86 #[.pointer (some ⟨w.heap.size, 0, none⟩)] encStr (fun ss : List (List UInt8) => ss = []) 0 (w.alloc (.cells #[.map none] 103)) :=
    AnyZ.keys_gives_nil (ρ := Tryz.keys51_ren) { Tryz.keys51 with } Fence.wide _ trivial rfl w.heap.size _ (by simp) (by simp)
  exact AnyZ.sorted_in Tryz.sorted50 Fence.wide 5 trivial trivial trivial trivial rfl (by omega) (Tryz.sorts50 _) (enters_of Tryz.func20 (by kernel_rfl) rfl) 86 #[.pointer (some ⟨w.heap.size, 0, none⟩)] trivial (enters_of Tryz.func86 (by kernel_rfl) rfl) _ 0 (Nat.zero_le _) (by omega) _ hseq
theorem Tryz.maps_Keys_55 (mb : Option Nat) (W : World) : CallsIn Fence.wide 5 Tryz.prog 55 #[.map mb] W fun e w' => e = .returned (.func (.func 87) #[] #[.pointer (some ⟨W.heap.size, 0, none⟩)]) ∧ w' = W.alloc (.cells #[.map mb] 98) :=
  AnyZ.keys_in Tryz.keys55 Fence.wide 5 trivial rfl mb W
set_option maxHeartbeats 1000000 in
theorem Tryz.slices_Sorted_keys_50_55 {H : Type} (b nn : Nat) (D0 : DataW H) (R : Value → Option (DataW H × List MemPlace)) (w : World) (hown : w.ownsMap Tryz.prog 9 R b nn D0) (hmax : Maps.size D0 ≤ maxLen) (hbytes : Maps.size D0 * 16 ≤ 140737488355328) :
    CallsIn Fence.wide 5 Tryz.prog 50 #[.func (.func 87) #[] #[.pointer (some ⟨w.heap.size, 0, none⟩)]] (w.alloc (.cells #[.map (some b)] 98)) fun e w' => ∃ (v : Value) (ss : List (List UInt8)), e = .returned v ∧ ss.Perm (strKeys D0) ∧
      w'.ownsRow (w.alloc (.cells #[.map (some b)] 98)).heap.size 9 1 v ss.length ((ss.mergeSort (fun x y => decide (x ≤ y))).map encStr) ∧ (v = .slice none 0 0 ↔ ss = []) ∧ Below (w.alloc (.cells #[.map (some b)] 98)).heap.size (w.alloc (.cells #[.map (some b)] 98)) w' := by
  have hbl := hown.lt
  have hseq : SeqGives Fence.wide 2 Tryz.prog 87 #[.pointer (some ⟨w.heap.size, 0, none⟩)] encStr (fun ss => ss.Perm (strKeys D0)) (Maps.size D0) (w.alloc (.cells #[.map (some b)] 98)) :=
    AnyZ.keys_gives (ρ := Tryz.keys55_ren) { Tryz.keys55 with } Fence.wide _ trivial rfl (by omega) w.heap.size b nn D0 _ (by simp) (by simp) (by
      obtain ⟨es, clock, hb, Ft, hs, hD⟩ := hown
      exact ⟨es, clock, (Below.heap_alloc _ _ b hbl).trans hb, Ft, hs, hD⟩)
  exact AnyZ.sorted_in Tryz.sorted50 Fence.wide 5 trivial trivial trivial trivial rfl (by omega) (Tryz.sorts50 _) (enters_of Tryz.func20 (by kernel_rfl) rfl) 87 #[.pointer (some ⟨w.heap.size, 0, none⟩)] trivial (enters_of Tryz.func87 (by kernel_rfl) rfl) _ _ hmax hbytes _ hseq
set_option maxHeartbeats 1000000 in
theorem Tryz.slices_Sorted_keys_nil_50_55 (w : World) :
    CallsIn Fence.wide 5 Tryz.prog 50 #[.func (.func 87) #[] #[.pointer (some ⟨w.heap.size, 0, none⟩)]] (w.alloc (.cells #[.map none] 98)) fun e w' => ∃ (v : Value) (ss : List (List UInt8)), e = .returned v ∧ ss = [] ∧
      w'.ownsRow (w.alloc (.cells #[.map none] 98)).heap.size 9 1 v ss.length ((ss.mergeSort (fun x y => decide (x ≤ y))).map encStr) ∧ (v = .slice none 0 0 ↔ ss = []) ∧ Below (w.alloc (.cells #[.map none] 98)).heap.size (w.alloc (.cells #[.map none] 98)) w' := by
  have hseq : SeqGives Fence.wide 2 Tryz.prog 87 #[.pointer (some ⟨w.heap.size, 0, none⟩)] encStr (fun ss : List (List UInt8) => ss = []) 0 (w.alloc (.cells #[.map none] 98)) :=
    AnyZ.keys_gives_nil (ρ := Tryz.keys55_ren) { Tryz.keys55 with } Fence.wide _ trivial rfl w.heap.size _ (by simp) (by simp)
  exact AnyZ.sorted_in Tryz.sorted50 Fence.wide 5 trivial trivial trivial trivial rfl (by omega) (Tryz.sorts50 _) (enters_of Tryz.func20 (by kernel_rfl) rfl) 87 #[.pointer (some ⟨w.heap.size, 0, none⟩)] trivial (enters_of Tryz.func87 (by kernel_rfl) rfl) _ 0 (Nat.zero_le _) (by omega) _ hseq
end Go.Proofs
