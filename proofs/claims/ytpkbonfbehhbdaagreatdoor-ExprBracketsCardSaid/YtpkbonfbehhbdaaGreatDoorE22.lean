/- Joined texts: Catch, Find, Words, Named, Reserved. -/
import Derived.Test.YtpkbonfbehhbdaaGreatDoorE01
import Derived.Test.YtpkbonfbehhbdaaGreatDoorE02
import Derived.Test.YtpkbonfbehhbdaaGreatDoorE03
import Derived.Test.YtpkbonfbehhbdaaGreatDoorE04
import Derived.Test.YtpkbonfbehhbdaaGreatDoorE06
import Derived.Defers
import Derived.Recover
import Derived.Shelf.Abstract
/- expr.Parse's deferred closure: its two contracts. -/
namespace Go.Proofs.YtpkbonfbehhbdaaGreatDoor
open Go.RowKit Go.Sort

set_option maxHeartbeats 1000000 in
set_option maxRecDepth 100000 in
theorem catch_idle (p q : Addr) (w : World) :
    CallsD Tryz.prog 32 #[.pointer (some p), .pointer (some q)] .returning w fun e u' w' => e = .returned (.tuple #[]) ∧ u' = .returning ∧ w' = w := by
  refine callsD_of_wpS Tryz.func32 rfl fun c₀ cs hu => ?_
  apply wpS_seq
  apply wpS_region
  simp [wpOpsS, go_sem, recoverD, hu, Tryz.ntmps32, Exit.thenS]
  rw [show (#[Value.pointer (some p), Value.pointer (some q)] ++ (Array.replicate 9 undef).setIfInBounds 3 (.nilIface)) = #[Value.pointer (some p), Value.pointer (some q), undef, undef, undef, .nilIface, undef, undef, undef, undef, undef] from rfl]
  refine wpS_of_wp ?_
  go_wp2_with fail
  cases c₀
  simp_all [bodyPostS, results, Tryz.results32]
set_option maxHeartbeats 1000000 in
set_option maxRecDepth 100000 in
theorem catch_wrong (p q : Nat) (x y : Value) (older : List PanicEntry) (w : World) (hp : w.cell? ⟨p, 0, none⟩ = some x) (hq : w.cell? ⟨q, 0, none⟩ = some y) (zp : w.frozen? ⟨p, 0, none⟩ = false) (zq : w.frozen? ⟨q, 0, none⟩ = false) (hpb : p < w.heap.size) (hpq : (p == q) = false) (_ : (q == p) = false) (hqb : q < w.heap.size) :
    CallsD Tryz.prog 32 #[.pointer (some ⟨p, 0, none⟩), .pointer (some ⟨q, 0, none⟩)] (.panicking ({ v := .iface 63 (.agg #[]), recovered := false } :: older)) w fun e u' w' =>
      e = .returned (.tuple #[]) ∧ u' = .panicking ({ v := .iface 63 (.agg #[]), recovered := true } :: older) ∧ w' = ((w.setCell ⟨p, 0, none⟩ (.pointer none)).setCell ⟨q, 0, none⟩ (.int .i64 3)).alloc (.cells #[] 63) := by
  refine callsD_of_wpS Tryz.func32 rfl fun c₀ cs hu => ?_
  apply wpS_seq
  apply wpS_region
  simp [wpOpsS, go_sem, recoverD, hu, Tryz.ntmps32, Exit.thenS]
  rw [show (#[Value.pointer (some ⟨p, 0, none⟩), Value.pointer (some ⟨q, 0, none⟩)] ++ (Array.replicate 9 undef).setIfInBounds 3 (.iface 63 (.agg #[]))) = #[Value.pointer (some ⟨p, 0, none⟩), Value.pointer (some ⟨q, 0, none⟩), undef, undef, undef, .iface 63 (.agg #[]), undef, undef, undef, undef, undef] from rfl]
  refine wpS_of_wp ?_
  have hta : ∀ wx : World, Sem.run Tryz.prog (Instr.typeAssert (.iface 63 (.agg #[])) 20 63 true) wx = .ok (.tuple #[.agg #[], .bool true]) wx := by
    intro wx
    first | rfl | kernel_rfl
  have hne : (⟨p, 0, none⟩ : Addr) ≠ ⟨q, 0, none⟩ := fun e => by
    injection e with e _ _
    rw [e] at hpq
    simp at hpq
  have hq2 : (w.setCell ⟨p, 0, none⟩ (.pointer none)).cell? ⟨q, 0, none⟩ = some y := by rw [World.cell?_setCell_other (h := hne)]; exact hq
  clear hne
  go_wp2_with fail
  cases c₀
  simp_all [bodyPostS, results, Tryz.results32]
end Go.Proofs.YtpkbonfbehhbdaaGreatDoor

/- operand.find: the ten kinds, one contract. (Written by wip/gen_find.py.) -/
namespace Go.Proofs.YtpkbonfbehhbdaaGreatDoor
open Go.RowKit

/-- The names of kind k (1 to 10) by register number 0 to 8. -/
def nm : Nat → Nat → ByteArray
  | 1, 0 => ⟨#[66]⟩
  | 1, 1 => ⟨#[67]⟩
  | 1, 2 => ⟨#[68]⟩
  | 1, 3 => ⟨#[69]⟩
  | 1, 4 => ⟨#[72]⟩
  | 1, 5 => ⟨#[76]⟩
  | 1, 6 => ⟨#[]⟩
  | 1, 7 => ⟨#[65]⟩
  | 1, 8 => ⟨#[]⟩
  | 2, 0 => ⟨#[73, 88, 72]⟩
  | 2, 1 => ⟨#[73, 88, 76]⟩
  | 2, 2 => ⟨#[73, 89, 72]⟩
  | 2, 3 => ⟨#[73, 89, 76]⟩
  | 2, 4 => ⟨#[]⟩
  | 2, 5 => ⟨#[]⟩
  | 2, 6 => ⟨#[]⟩
  | 2, 7 => ⟨#[]⟩
  | 2, 8 => ⟨#[]⟩
  | 3, 0 => ⟨#[66, 67]⟩
  | 3, 1 => ⟨#[68, 69]⟩
  | 3, 2 => ⟨#[72, 76]⟩
  | 3, 3 => ⟨#[83, 80]⟩
  | 3, 4 => ⟨#[65, 70]⟩
  | 3, 5 => ⟨#[73, 88]⟩
  | 3, 6 => ⟨#[73, 89]⟩
  | 3, 7 => ⟨#[65, 70, 39]⟩
  | 3, 8 => ⟨#[]⟩
  | 4, 0 => ⟨#[66, 67]⟩
  | 4, 1 => ⟨#[68, 69]⟩
  | 4, 2 => ⟨#[72, 76]⟩
  | 4, 3 => ⟨#[83, 80]⟩
  | 4, 4 => ⟨#[]⟩
  | 4, 5 => ⟨#[73, 88]⟩
  | 4, 6 => ⟨#[73, 89]⟩
  | 4, 7 => ⟨#[]⟩
  | 4, 8 => ⟨#[67]⟩
  | 5, 0 => ⟨#[]⟩
  | 5, 1 => ⟨#[]⟩
  | 5, 2 => ⟨#[]⟩
  | 5, 3 => ⟨#[]⟩
  | 5, 4 => ⟨#[]⟩
  | 5, 5 => ⟨#[73, 88]⟩
  | 5, 6 => ⟨#[73, 89]⟩
  | 5, 7 => ⟨#[]⟩
  | 5, 8 => ⟨#[]⟩
  | 6, 0 => ⟨#[42]⟩
  | 6, 1 => ⟨#[]⟩
  | 6, 2 => ⟨#[]⟩
  | 6, 3 => ⟨#[]⟩
  | 6, 4 => ⟨#[]⟩
  | 6, 5 => ⟨#[]⟩
  | 6, 6 => ⟨#[]⟩
  | 6, 7 => ⟨#[]⟩
  | 6, 8 => ⟨#[]⟩
  | 7, 0 => ⟨#[42]⟩
  | 7, 1 => ⟨#[]⟩
  | 7, 2 => ⟨#[]⟩
  | 7, 3 => ⟨#[]⟩
  | 7, 4 => ⟨#[]⟩
  | 7, 5 => ⟨#[]⟩
  | 7, 6 => ⟨#[]⟩
  | 7, 7 => ⟨#[]⟩
  | 7, 8 => ⟨#[]⟩
  | 8, 0 => ⟨#[78, 90]⟩
  | 8, 1 => ⟨#[90]⟩
  | 8, 2 => ⟨#[78, 67]⟩
  | 8, 3 => ⟨#[67]⟩
  | 8, 4 => ⟨#[80, 79]⟩
  | 8, 5 => ⟨#[80, 69]⟩
  | 8, 6 => ⟨#[80]⟩
  | 8, 7 => ⟨#[77]⟩
  | 8, 8 => ⟨#[]⟩
  | 9, 0 => ⟨#[73]⟩
  | 9, 1 => ⟨#[82]⟩
  | 9, 2 => ⟨#[]⟩
  | 9, 3 => ⟨#[]⟩
  | 9, 4 => ⟨#[]⟩
  | 9, 5 => ⟨#[]⟩
  | 9, 6 => ⟨#[]⟩
  | 9, 7 => ⟨#[]⟩
  | 9, 8 => ⟨#[]⟩
  | 10, 0 => ⟨#[42]⟩
  | 10, 1 => ⟨#[]⟩
  | 10, 2 => ⟨#[]⟩
  | 10, 3 => ⟨#[]⟩
  | 10, 4 => ⟨#[]⟩
  | 10, 5 => ⟨#[]⟩
  | 10, 6 => ⟨#[]⟩
  | 10, 7 => ⟨#[]⟩
  | 10, 8 => ⟨#[]⟩
  | _, _ => ⟨#[]⟩
def klo : Nat → Int | 5 => -128 | 6 => -32768 | 10 => -128 | _ => 0
def khi : Nat → Int | 5 => 127 | 6 => 65535 | 7 => 65535 | 10 => 127 | _ => 0
def kf : Nat → Nat
  | 4 => 138 | 5 => 139 | 6 => 141 | 7 => 142 | 10 => 143 | _ => 137

theorem find_1 (w : World) :
    Calls Tryz.prog 121 #[.int .i64 1] w fun e w' => e = .returned (.tuple #[.agg #[.string (nm 1 0), .string (nm 1 1), .string (nm 1 2), .string (nm 1 3), .string (nm 1 4), .string (nm 1 5), .string (nm 1 6), .string (nm 1 7), .string (nm 1 8), .int .i64 (klo 1), .int .i64 (khi 1), .func (.func (kf 1)) #[] #[]], .bool true]) ∧ Below w.heap.size w w' := by
  go_enter Tryz.func121, Tryz.ntmps121
  go_wp2
  refine bodyPost_ret (v := .tuple #[.agg #[.string ⟨#[66]⟩, .string ⟨#[67]⟩, .string ⟨#[68]⟩, .string ⟨#[69]⟩, .string ⟨#[72]⟩, .string ⟨#[76]⟩, .string ⟨#[]⟩, .string ⟨#[65]⟩, .string ⟨#[]⟩, .int .i64 (0), .int .i64 (0), .func (.func 137) #[] #[]], .bool true]) (by simp [results, Tryz.results121, go_sem]) rfl ⟨rfl, ?_⟩
  exact (Below.refl _ _).alloc (Nat.le_refl _) _

theorem find_2 (w : World) :
    Calls Tryz.prog 121 #[.int .i64 2] w fun e w' => e = .returned (.tuple #[.agg #[.string (nm 2 0), .string (nm 2 1), .string (nm 2 2), .string (nm 2 3), .string (nm 2 4), .string (nm 2 5), .string (nm 2 6), .string (nm 2 7), .string (nm 2 8), .int .i64 (klo 2), .int .i64 (khi 2), .func (.func (kf 2)) #[] #[]], .bool true]) ∧ Below w.heap.size w w' := by
  go_enter Tryz.func121, Tryz.ntmps121
  go_wp2
  refine bodyPost_ret (v := .tuple #[.agg #[.string ⟨#[73, 88, 72]⟩, .string ⟨#[73, 88, 76]⟩, .string ⟨#[73, 89, 72]⟩, .string ⟨#[73, 89, 76]⟩, .string ⟨#[]⟩, .string ⟨#[]⟩, .string ⟨#[]⟩, .string ⟨#[]⟩, .string ⟨#[]⟩, .int .i64 (0), .int .i64 (0), .func (.func 137) #[] #[]], .bool true]) (by simp [results, Tryz.results121, go_sem]) rfl ⟨rfl, ?_⟩
  exact (Below.refl _ _).alloc (Nat.le_refl _) _

theorem find_3 (w : World) :
    Calls Tryz.prog 121 #[.int .i64 3] w fun e w' => e = .returned (.tuple #[.agg #[.string (nm 3 0), .string (nm 3 1), .string (nm 3 2), .string (nm 3 3), .string (nm 3 4), .string (nm 3 5), .string (nm 3 6), .string (nm 3 7), .string (nm 3 8), .int .i64 (klo 3), .int .i64 (khi 3), .func (.func (kf 3)) #[] #[]], .bool true]) ∧ Below w.heap.size w w' := by
  go_enter Tryz.func121, Tryz.ntmps121
  go_wp2
  refine bodyPost_ret (v := .tuple #[.agg #[.string ⟨#[66, 67]⟩, .string ⟨#[68, 69]⟩, .string ⟨#[72, 76]⟩, .string ⟨#[83, 80]⟩, .string ⟨#[65, 70]⟩, .string ⟨#[73, 88]⟩, .string ⟨#[73, 89]⟩, .string ⟨#[65, 70, 39]⟩, .string ⟨#[]⟩, .int .i64 (0), .int .i64 (0), .func (.func 137) #[] #[]], .bool true]) (by simp [results, Tryz.results121, go_sem]) rfl ⟨rfl, ?_⟩
  exact (Below.refl _ _).alloc (Nat.le_refl _) _

theorem find_4 (w : World) :
    Calls Tryz.prog 121 #[.int .i64 4] w fun e w' => e = .returned (.tuple #[.agg #[.string (nm 4 0), .string (nm 4 1), .string (nm 4 2), .string (nm 4 3), .string (nm 4 4), .string (nm 4 5), .string (nm 4 6), .string (nm 4 7), .string (nm 4 8), .int .i64 (klo 4), .int .i64 (khi 4), .func (.func (kf 4)) #[] #[]], .bool true]) ∧ Below w.heap.size w w' := by
  go_enter Tryz.func121, Tryz.ntmps121
  go_wp2
  refine bodyPost_ret (v := .tuple #[.agg #[.string ⟨#[66, 67]⟩, .string ⟨#[68, 69]⟩, .string ⟨#[72, 76]⟩, .string ⟨#[83, 80]⟩, .string ⟨#[]⟩, .string ⟨#[73, 88]⟩, .string ⟨#[73, 89]⟩, .string ⟨#[]⟩, .string ⟨#[67]⟩, .int .i64 (0), .int .i64 (0), .func (.func 138) #[] #[]], .bool true]) (by simp [results, Tryz.results121, go_sem]) rfl ⟨rfl, ?_⟩
  exact (Below.refl _ _).alloc (Nat.le_refl _) _

theorem find_5 (w : World) :
    Calls Tryz.prog 121 #[.int .i64 5] w fun e w' => e = .returned (.tuple #[.agg #[.string (nm 5 0), .string (nm 5 1), .string (nm 5 2), .string (nm 5 3), .string (nm 5 4), .string (nm 5 5), .string (nm 5 6), .string (nm 5 7), .string (nm 5 8), .int .i64 (klo 5), .int .i64 (khi 5), .func (.func (kf 5)) #[] #[]], .bool true]) ∧ Below w.heap.size w w' := by
  go_enter Tryz.func121, Tryz.ntmps121
  go_wp2
  refine bodyPost_ret (v := .tuple #[.agg #[.string ⟨#[]⟩, .string ⟨#[]⟩, .string ⟨#[]⟩, .string ⟨#[]⟩, .string ⟨#[]⟩, .string ⟨#[73, 88]⟩, .string ⟨#[73, 89]⟩, .string ⟨#[]⟩, .string ⟨#[]⟩, .int .i64 (-128), .int .i64 (127), .func (.func 139) #[] #[]], .bool true]) (by simp [results, Tryz.results121, go_sem]) rfl ⟨rfl, ?_⟩
  exact (Below.refl _ _).alloc (Nat.le_refl _) _

theorem find_6 (w : World) :
    Calls Tryz.prog 121 #[.int .i64 6] w fun e w' => e = .returned (.tuple #[.agg #[.string (nm 6 0), .string (nm 6 1), .string (nm 6 2), .string (nm 6 3), .string (nm 6 4), .string (nm 6 5), .string (nm 6 6), .string (nm 6 7), .string (nm 6 8), .int .i64 (klo 6), .int .i64 (khi 6), .func (.func (kf 6)) #[] #[]], .bool true]) ∧ Below w.heap.size w w' := by
  go_enter Tryz.func121, Tryz.ntmps121
  go_wp2
  refine bodyPost_ret (v := .tuple #[.agg #[.string ⟨#[42]⟩, .string ⟨#[]⟩, .string ⟨#[]⟩, .string ⟨#[]⟩, .string ⟨#[]⟩, .string ⟨#[]⟩, .string ⟨#[]⟩, .string ⟨#[]⟩, .string ⟨#[]⟩, .int .i64 (-32768), .int .i64 (65535), .func (.func 141) #[] #[]], .bool true]) (by simp [results, Tryz.results121, go_sem]) rfl ⟨rfl, ?_⟩
  exact (Below.refl _ _).alloc (Nat.le_refl _) _

theorem find_7 (w : World) :
    Calls Tryz.prog 121 #[.int .i64 7] w fun e w' => e = .returned (.tuple #[.agg #[.string (nm 7 0), .string (nm 7 1), .string (nm 7 2), .string (nm 7 3), .string (nm 7 4), .string (nm 7 5), .string (nm 7 6), .string (nm 7 7), .string (nm 7 8), .int .i64 (klo 7), .int .i64 (khi 7), .func (.func (kf 7)) #[] #[]], .bool true]) ∧ Below w.heap.size w w' := by
  go_enter Tryz.func121, Tryz.ntmps121
  go_wp2
  refine bodyPost_ret (v := .tuple #[.agg #[.string ⟨#[42]⟩, .string ⟨#[]⟩, .string ⟨#[]⟩, .string ⟨#[]⟩, .string ⟨#[]⟩, .string ⟨#[]⟩, .string ⟨#[]⟩, .string ⟨#[]⟩, .string ⟨#[]⟩, .int .i64 (0), .int .i64 (65535), .func (.func 142) #[] #[]], .bool true]) (by simp [results, Tryz.results121, go_sem]) rfl ⟨rfl, ?_⟩
  exact (Below.refl _ _).alloc (Nat.le_refl _) _

theorem find_8 (w : World) :
    Calls Tryz.prog 121 #[.int .i64 8] w fun e w' => e = .returned (.tuple #[.agg #[.string (nm 8 0), .string (nm 8 1), .string (nm 8 2), .string (nm 8 3), .string (nm 8 4), .string (nm 8 5), .string (nm 8 6), .string (nm 8 7), .string (nm 8 8), .int .i64 (klo 8), .int .i64 (khi 8), .func (.func (kf 8)) #[] #[]], .bool true]) ∧ Below w.heap.size w w' := by
  go_enter Tryz.func121, Tryz.ntmps121
  go_wp2
  refine bodyPost_ret (v := .tuple #[.agg #[.string ⟨#[78, 90]⟩, .string ⟨#[90]⟩, .string ⟨#[78, 67]⟩, .string ⟨#[67]⟩, .string ⟨#[80, 79]⟩, .string ⟨#[80, 69]⟩, .string ⟨#[80]⟩, .string ⟨#[77]⟩, .string ⟨#[]⟩, .int .i64 (0), .int .i64 (0), .func (.func 137) #[] #[]], .bool true]) (by simp [results, Tryz.results121, go_sem]) rfl ⟨rfl, ?_⟩
  exact (Below.refl _ _).alloc (Nat.le_refl _) _

theorem find_9 (w : World) :
    Calls Tryz.prog 121 #[.int .i64 9] w fun e w' => e = .returned (.tuple #[.agg #[.string (nm 9 0), .string (nm 9 1), .string (nm 9 2), .string (nm 9 3), .string (nm 9 4), .string (nm 9 5), .string (nm 9 6), .string (nm 9 7), .string (nm 9 8), .int .i64 (klo 9), .int .i64 (khi 9), .func (.func (kf 9)) #[] #[]], .bool true]) ∧ Below w.heap.size w w' := by
  go_enter Tryz.func121, Tryz.ntmps121
  go_wp2
  refine bodyPost_ret (v := .tuple #[.agg #[.string ⟨#[73]⟩, .string ⟨#[82]⟩, .string ⟨#[]⟩, .string ⟨#[]⟩, .string ⟨#[]⟩, .string ⟨#[]⟩, .string ⟨#[]⟩, .string ⟨#[]⟩, .string ⟨#[]⟩, .int .i64 (0), .int .i64 (0), .func (.func 137) #[] #[]], .bool true]) (by simp [results, Tryz.results121, go_sem]) rfl ⟨rfl, ?_⟩
  exact (Below.refl _ _).alloc (Nat.le_refl _) _

theorem find_10 (w : World) :
    Calls Tryz.prog 121 #[.int .i64 10] w fun e w' => e = .returned (.tuple #[.agg #[.string (nm 10 0), .string (nm 10 1), .string (nm 10 2), .string (nm 10 3), .string (nm 10 4), .string (nm 10 5), .string (nm 10 6), .string (nm 10 7), .string (nm 10 8), .int .i64 (klo 10), .int .i64 (khi 10), .func (.func (kf 10)) #[] #[]], .bool true]) ∧ Below w.heap.size w w' := by
  go_enter Tryz.func121, Tryz.ntmps121
  go_wp2
  refine bodyPost_ret (v := .tuple #[.agg #[.string ⟨#[42]⟩, .string ⟨#[]⟩, .string ⟨#[]⟩, .string ⟨#[]⟩, .string ⟨#[]⟩, .string ⟨#[]⟩, .string ⟨#[]⟩, .string ⟨#[]⟩, .string ⟨#[]⟩, .int .i64 (-128), .int .i64 (127), .func (.func 143) #[] #[]], .bool true]) (by simp [results, Tryz.results121, go_sem]) rfl ⟨rfl, ?_⟩
  exact (Below.refl _ _).alloc (Nat.le_refl _) _

theorem find_yes (k : Nat) (w : World) (h : 1 ≤ k) (h' : k ≤ 10) :
    Calls Tryz.prog 121 #[.int .i64 k] w fun e w' => e = .returned (.tuple #[.agg #[.string (nm k 0), .string (nm k 1), .string (nm k 2), .string (nm k 3), .string (nm k 4), .string (nm k 5), .string (nm k 6), .string (nm k 7), .string (nm k 8), .int .i64 (klo k), .int .i64 (khi k), .func (.func (kf k)) #[] #[]], .bool true]) ∧ Below w.heap.size w w' := by
  have hk : k = 1 ∨ k = 2 ∨ k = 3 ∨ k = 4 ∨ k = 5 ∨ k = 6 ∨ k = 7 ∨ k = 8 ∨ k = 9 ∨ k = 10 := by omega
  rcases hk with rfl | rfl | rfl | rfl | rfl | rfl | rfl | rfl | rfl | rfl
  · exact find_1 w
  · exact find_2 w
  · exact find_3 w
  · exact find_4 w
  · exact find_5 w
  · exact find_6 w
  · exact find_7 w
  · exact find_8 w
  · exact find_9 w
  · exact find_10 w

theorem find_no (k : Int) (w : World) (h : k < 1 ∨ 10 < k) :
    Calls Tryz.prog 121 #[.int .i64 k] w fun e w' => e = .returned (.tuple #[.agg #[.string ⟨#[]⟩, .string ⟨#[]⟩, .string ⟨#[]⟩, .string ⟨#[]⟩, .string ⟨#[]⟩, .string ⟨#[]⟩, .string ⟨#[]⟩, .string ⟨#[]⟩, .string ⟨#[]⟩, .int .i64 0, .int .i64 0, .nilFunc], .bool false]) ∧ Below w.heap.size w w' := by
  have e1 : (k == 1) = false := by simp; omega
  have e2 : (k == 2) = false := by simp; omega
  have e3 : (k == 3) = false := by simp; omega
  have e4 : (k == 4) = false := by simp; omega
  have e5 : (k == 5) = false := by simp; omega
  have e6 : (k == 6) = false := by simp; omega
  have e7 : (k == 7) = false := by simp; omega
  have e8 : (k == 8) = false := by simp; omega
  have e9 : (k == 9) = false := by simp; omega
  have e10 : (k == 10) = false := by simp; omega
  clear h
  go_enter Tryz.func121, Tryz.ntmps121
  go_wp2
  refine bodyPost_ret (v := .tuple #[.agg #[.string ⟨#[]⟩, .string ⟨#[]⟩, .string ⟨#[]⟩, .string ⟨#[]⟩, .string ⟨#[]⟩, .string ⟨#[]⟩, .string ⟨#[]⟩, .string ⟨#[]⟩, .string ⟨#[]⟩, .int .i64 0, .int .i64 0, .nilFunc], .bool false]) (by simp [results, Tryz.results121, go_sem]) rfl ⟨rfl, ?_⟩
  exact (Below.refl _ _).alloc (Nat.le_refl _) _
end Go.Proofs.YtpkbonfbehhbdaaGreatDoor

/- operand.words: the operands that have names for which a condition holds. -/
namespace Go.Proofs.YtpkbonfbehhbdaaGreatDoor
open Go.RowKit Go.Sort

/-- The kinds that have names, in order. -/
def kindAt : Nat → Nat | 0 => 1 | 1 => 2 | 2 => 3 | 3 => 8 | _ => 9
theorem kindAt_bd (i : Nat) : 1 ≤ kindAt i ∧ kindAt i ≤ 10 := by unfold kindAt; split <;> omega
/-- The cells of operands without numbers. -/
def opCells (l : List (Nat × Nat)) : List Value := l.flatMap fun x => [.int .i64 x.1, .int .i64 x.2, .int .i64 0]
/-- Of kind k: those among the first r names for which the condition holds. -/
def wl (p : ByteArray → Bool) (k r : Nat) : List (Nat × Nat) := ((List.range r).filter fun j => !(nm k j).toList.isEmpty && p (nm k j)).map fun j => (k, j)
def wlist (p : ByteArray → Bool) (i : Nat) : List (Nat × Nat) := (List.range i).flatMap fun j => wl p (kindAt j) 9

theorem opCells_len (l : List (Nat × Nat)) : (opCells l).length = l.length * 3 := by
  unfold opCells
  induction l with
  | nil => rfl
  | cons a l ih => simp at ih ⊢; omega
theorem opCells_append (l m : List (Nat × Nat)) : opCells (l ++ m) = opCells l ++ opCells m := by simp [opCells]
theorem wl_hit (p : ByteArray → Bool) (k r : Nat) (h : (nm k r).toList.isEmpty = false) (hp : p (nm k r) = true) : wl p k (r + 1) = wl p k r ++ [(k, r)] := by
  simp [wl, List.range_succ, List.filter_append, h, hp]
theorem wl_miss (p : ByteArray → Bool) (k r : Nat) (h : (nm k r).toList.isEmpty = true ∨ p (nm k r) = false) : wl p k (r + 1) = wl p k r := by
  rcases h with h | h <;> simp [wl, List.range_succ, List.filter_append, h]
theorem wlist_succ (p : ByteArray → Bool) (i : Nat) : wlist p (i + 1) = wlist p i ++ wl p (kindAt i) 9 := by
  simp [wlist, List.range_succ]
theorem wl_len (p : ByteArray → Bool) (k r : Nat) : (wl p k r).length ≤ r := by
  unfold wl; rw [List.length_map]
  exact Nat.le_trans (List.length_filter_le _ _) (by simp)
theorem wlist_len (p : ByteArray → Bool) : ∀ i, (wlist p i).length ≤ i * 9
  | 0 => by simp [wlist]
  | i + 1 => by have := wlist_len p i; have := wl_len p (kindAt i) 9; rw [wlist_succ, List.length_append]; omega

theorem owns_below {w w' : World} {base : Nat} {e : TypeId} {size : Nat} {v : Value} {n : Nat} {xs : List Value} (h : w.ownsRow base e size v n xs) (hb : Below w.heap.size w w') : w'.ownsRow base e size v n xs := by
  obtain ⟨h1, h2⟩ := h
  refine ⟨h1, ?_⟩
  rcases h2 with h2 | ⟨g, cap, cur, hv, hg, hh, r⟩
  · exact Or.inl h2
  · exact Or.inr ⟨g, cap, cur, hv, hg, by rw [hb.block g (lt_of_block hh)]; exact hh, r⟩

theorem index9 (a0 a1 a2 a3 a4 a5 a6 a7 a8 : ByteArray) (f : Nat → ByteArray) (h0 : f 0 = a0) (h1 : f 1 = a1) (h2 : f 2 = a2) (h3 : f 3 = a3) (h4 : f 4 = a4) (h5 : f 5 = a5) (h6 : f 6 = a6) (h7 : f 7 = a7) (h8 : f 8 = a8) (r : Nat) (hr : r < 9) (w : World) :
    (Instr.index 160 (.agg #[.string a0, .string a1, .string a2, .string a3, .string a4, .string a5, .string a6, .string a7, .string a8]) (.int .i64 r)).run Tryz.prog w = .ok (.string (f r)) w := by
  subst h0 h1 h2 h3 h4 h5 h6 h7 h8
  have hr' : r = 0 ∨ r = 1 ∨ r = 2 ∨ r = 3 ∨ r = 4 ∨ r = 5 ∨ r = 6 ∨ r = 7 ∨ r = 8 := by omega
  rcases hr' with rfl | rfl | rfl | rfl | rfl | rfl | rfl | rfl | rfl <;> (revert w; intro w; change _ = _; kernel_rfl)
theorem index5 (i : Nat) (hi : i < 5) (w : World) :
    (Instr.index 159 (.agg #[.int .i64 1, .int .i64 2, .int .i64 3, .int .i64 8, .int .i64 9]) (.int .i64 i)).run Tryz.prog w = .ok (.int .i64 (kindAt i)) w := by
  have hr' : i = 0 ∨ i = 1 ∨ i = 2 ∨ i = 3 ∨ i = 4 := by omega
  rcases hr' with rfl | rfl | rfl | rfl | rfl <;> (revert w; intro w; change _ = _; kernel_rfl)

theorem Tryz.infoOperand : (Tryz.prog.info? 115).map (fun i => (i.zero, i.size, i.bytes)) = some (some (.agg #[.int .i64 0, .int .i64 0, .int .i64 0]), 3, 24) := by kernel_rfl

set_option maxHeartbeats 1000000 in
set_option maxRecDepth 100000 in
theorem words_any (p : ByteArray → Bool) (g : Nat) (lb : Array Value) (w : World) (hent : ∀ args w, (callFunc g args).run Tryz.prog w = .ok (.enter g args) w)
    (hok : ∀ s W, Below w.heap.size w W → Calls Tryz.prog g (#[.string s] ++ lb) W fun e w' => e = .returned (.bool (p s)) ∧ W = w') :
    Calls Tryz.prog 99 #[.func (.func g) #[] lb] w fun e w' => ∃ v, e = .returned v ∧ w'.ownsRow w.heap.size 115 3 v (wlist p 5).length (opCells (wlist p 5)) ∧ Below w.heap.size w w' := by
  obtain ⟨i0, hi, hz0, hz1, hz2⟩ := info_parts Tryz.infoOperand
  have HOK := Lib.hid hok; clear hok
  obtain ⟨B, hB⟩ : ∃ B, w.heap.size = B := ⟨_, rfl⟩
  rw [hB] at HOK ⊢
  have HB := Lib.hid hB; clear hB
  go_enter Tryz.func99, Tryz.ntmps99
  go_wp2_with fail
  go_loopw [3, 11] (fun v i wr => ∃ j : Nat, j ≤ 5 ∧ i = .int .i64 j ∧ wr.ownsRow B 115 3 v (wlist p j).length (opCells (wlist p j)) ∧ Below B w wr) (fun _ i _ => 5 - (intOf i).toNat)
  case atStart => exact ⟨0, Nat.zero_le _, rfl, World.ownsRow_nil _ _ _ _, Below.refl _ _⟩
  case round =>
    obtain ⟨j, hj, rfl, hown, hbel⟩ := hrel
    by_cases hlt : j < 5
    · have hix := index5 j hlt
      obtain ⟨k, hk⟩ : ∃ k, kindAt j = k := ⟨_, rfl⟩
      have hkb := kindAt_bd j
      rw [hk] at hix hkb
      obtain ⟨hk1, hk2⟩ := hkb
      have Hk := Lib.hid hk; clear hk
      have HOWN := Lib.hid hown; clear hown
      go_wp2_with fail
      refine (find_yes k _ hk1 hk2).mono ?_
      rintro e w1 ⟨rfl, hb⟩
      obtain ⟨p1, rfl⟩ := gw_of_below hb
      clear hb hix
      go_wp2_with fail
      obtain ⟨wo, rfl⟩ : ∃ wo : World, wo = wr := ⟨_, rfl⟩
      have hsz : B ≤ wo.heap.size := by have := hbel.size; have := HB.out; omega
      have hbel1 : Below B w ((gw wo p1).alloc (.cells #[.string (nm k 0), .string (nm k 1), .string (nm k 2), .string (nm k 3), .string (nm k 4), .string (nm k 5), .string (nm k 6), .string (nm k 7), .string (nm k 8), .int .i64 (klo k), .int .i64 (khi k), .func (.func (kf k)) #[] #[]] 163)) := (below_gw' hbel hsz p1).alloc (by simp [go_sem]; omega) _
      have hown1 := (owns_below HOWN.out (below_gw wo p1)).alloc (.cells #[.string (nm k 0), .string (nm k 1), .string (nm k 2), .string (nm k 3), .string (nm k 4), .string (nm k 5), .string (nm k 6), .string (nm k 7), .string (nm k 8), .int .i64 (klo k), .int .i64 (khi k), .func (.func (kf k)) #[] #[]] 163)
      have HBEL1 := Lib.hid hbel1; clear hbel1
      have HOWN1 := Lib.hid hown1; clear hown1
      clear hbel
      go_loopw [3, 21] (fun v i wr => ∃ r : Nat, r ≤ 9 ∧ i = .int .i64 r ∧ wr.ownsRow B 115 3 v (wlist p j ++ wl p k r).length (opCells (wlist p j ++ wl p k r)) ∧ Below B w wr) (fun _ i _ => 9 - (intOf i).toNat)
      case atStart => exact ⟨0, Nat.zero_le _, rfl, by simpa [wl] using HOWN1.out, HBEL1.out⟩
      case round =>
        obtain ⟨r, hr, rfl, hown, hbel⟩ := hrel
        by_cases hrlt : r < 9
        · have hix := fun w => index9 (nm k 0) (nm k 1) (nm k 2) (nm k 3) (nm k 4) (nm k 5) (nm k 6) (nm k 7) (nm k 8) (nm k) rfl rfl rfl rfl rfl rfl rfl rfl rfl r hrlt w
          have HOWN2 := Lib.hid hown; clear hown
          by_cases hne : (nm k r).toList.isEmpty = true
          · go_wp2_with fail
            go_roundw
            case rel => exact ⟨r + 1, by omega, by go_num, by rw [wl_miss p k r (.inl hne)]; exact HOWN2.out, hbel⟩
            case measure => simp [intOf]; omega
          · have hne' : (nm k r).toList.isEmpty = false := by simpa using hne
            clear hne
            have HBEL := Lib.hid hbel; clear hbel
            go_wp2_with fail
            refine (HOK.out _ _ HBEL.out).mono ?_
            rintro e w1 ⟨rfl, rfl⟩
            rcases hp : p (nm k r) with _ | _
            · go_wp2_with fail
              go_roundw
              case rel => exact ⟨r + 1, by omega, by go_num, by rw [wl_miss p k r (.inr hp)]; exact HOWN2.out, HBEL.out⟩
              case measure => simp [intOf]; omega
            · have hlen := wlist_len p j
              have hlen2 := wl_len p k r
              have HP := Lib.hid hp; clear hp
              go_wp2_with (at_builtin; refine wpList_append_own _ rfl _ _ 75 rfl B 115 i0 (.agg #[.int .i64 0, .int .i64 0, .int .i64 0]) 3 24 Tryz.underlying75 hi hz0 hz1 hz2 rfl (by decide) _ _ _ rfl (HOWN2.out.alloc _) ⟨wr.heap.size, 0, none⟩ 1 1 [.int .i64 k, .int .i64 r, .int .i64 0] rfl rfl ?c1 ?c2 ?c3 ?c4 ?c5 ?_)
              case c1 =>
                intro q u hq
                rw [addr_add]
                match q, hq with
                | 0, hq => simp at hq; subst hq; simp [go_sem]
                | 1, hq => simp at hq; subst hq; simp [go_sem]
                | 2, hq => simp at hq; subst hq; simp [go_sem]
              case c2 => intro u hu; simp at hu; rcases hu with rfl | rfl | rfl <;> rfl
              case c3 => rw [List.length_append]; unfold maxLen; omega
              case c4 => rw [List.length_append]; omega
              case c5 => have := HBEL.out.size; have := HB.out; simp; omega
              intro v' w1 hown' hgrow _
              have hb' : Below B w w1 := (HBEL.out.alloc (by have := HBEL.out.size; have := HB.out; omega) _).grown hgrow (by have := HBEL.out.size; have := HB.out; simp; omega) (by
                intro q hq
                have := HOWN2.out.2
                rcases this with ⟨h, _⟩ | ⟨g, cap, cur, h, hg, _⟩
                · rw [h] at hq; cases hq
                · rw [h] at hq; cases hq; exact hg)
              have HOWN3 := Lib.hid hown'; clear hown'
              have HB' := Lib.hid hb'; clear hb' hgrow
              go_wp2_with fail
              go_roundw
              case rel => exact ⟨r + 1, by omega, by go_num, by rw [wl_hit p k r hne' HP.out, ← List.append_assoc, opCells_append, List.length_append, List.length_append]; exact HOWN3.out, HB'.out⟩
              case measure => simp [intOf]; omega
        · obtain rfl : r = 9 := by omega
          have HOWN2 := Lib.hid hown; clear hown
          go_wp2_with fail
          go_roundw
          case rel => exact ⟨j + 1, by omega, by go_num, by rw [wlist_succ, Hk.out]; exact HOWN2.out, hbel⟩
          case measure => simp [intOf]; omega
    · obtain rfl : j = 5 := by omega
      have HOWN := Lib.hid hown; clear hown
      go_wp2_with fail
      go_ret
      exact ⟨_, rfl, HOWN.out, hbel⟩
end Go.Proofs.YtpkbonfbehhbdaaGreatDoor

/- operand.Named and operand.Reserved. -/
namespace Go.Proofs.YtpkbonfbehhbdaaGreatDoor
open Go.RowKit Go.Sort

/-- The operands that a name denotes. -/
def namedL (s : ByteArray) : List (Nat × Nat) := wlist (fun x => x.toList == (upper s).toList) 5

set_option maxHeartbeats 400000 in
theorem named1 (s u : ByteArray) (b : Nat) (w : World) (hc : w.cell? ⟨b, 0, none⟩ = some (.string u)) :
    Calls Tryz.prog 100 #[.string s, .pointer (some ⟨b, 0, none⟩)] w fun e w' => e = .returned (.bool (s.toList == u.toList)) ∧ w = w' := by
  go_enter Tryz.func100, Tryz.ntmps100
  go_wp2
  go_ret
  exact ⟨rfl, rfl⟩

set_option maxHeartbeats 400000 in
theorem named_any (s : ByteArray) (w : World) (hs : s.size ≤ maxLen) :
    Calls Tryz.prog 55 #[.string s] w fun e w' => ∃ v, e = .returned v ∧ Row w' v (namedL s).length (opCells (namedL s)) ∧ Below w.heap.size w w' := by
  go_enter Tryz.func55, Tryz.ntmps55
  go_wp2_with fail
  refine (upper_any s _ hs).mono ?_
  rintro e w1 ⟨rfl, hb⟩
  obtain ⟨p1, rfl⟩ := gw_of_below hb
  clear hb
  go_wp2_with fail
  refine (words_any (fun x => x.toList == (upper s).toList) 100 _ _ (enters_of Tryz.func100 (by kernel_rfl) rfl) ?hok).mono ?_
  case hok =>
    intro x W hb
    refine named1 x (upper s) _ W ?_
    rw [hb.cell (by simp [go_sem])]
    simp [go_sem]
  rintro e w2 ⟨v, rfl, hown, hb⟩
  have HOWN := Lib.hid hown; clear hown
  have HB := Lib.hid hb; clear hb
  go_wp2_with fail
  go_ret
  refine ⟨_, rfl, Row.of_owns HOWN.out, ?_⟩
  refine Below.trans (b := ((gw w p1).alloc (.cells #[.string (upper s)] 9))) (by (repeat (first | exact Below.refl _ _ | refine Below.drew ?_ | (refine below_gw' ?_ (by first | omega | (simp [go_sem]; done) | (simp [go_sem]; omega)) _) | (refine Below.alloc ?_ (by first | omega | (simp [go_sem]; done) | (simp [go_sem]; omega)) _) | (refine Below.setCell ?_ (by first | omega | (simp [go_sem]; done) | (simp [go_sem]; omega)) _)))) (HB.out.mono (by simp [go_sem]; omega))

set_option maxHeartbeats 400000 in
theorem reserved_any (s : ByteArray) (w : World) (hs : s.size ≤ maxLen) :
    Calls Tryz.prog 35 #[.string s] w fun e w' => e = .returned (.bool (decide (0 < (namedL s).length))) ∧ Below w.heap.size w w' := by
  go_enter Tryz.func35, Tryz.ntmps35
  go_wp2_with fail
  refine (named_any s _ hs).mono ?_
  rintro e w1 ⟨v, rfl, ⟨a, cap, rfl, hr⟩, hb⟩
  have HR := Lib.hid hr; clear hr
  go_wp2_with fail
  go_ret
  refine ⟨?_, hb⟩
  simp
end Go.Proofs.YtpkbonfbehhbdaaGreatDoor

/- slices.IndexFunc and ContainsFunc at rows of strings with operand.Reserved. -/
namespace Go.Proofs.YtpkbonfbehhbdaaGreatDoor
open Go.RowKit Go.Sort

def resv (y : List UInt8) : Bool := decide (0 < (namedL ⟨y.toArray⟩).length)
set_option maxHeartbeats 1000000 in
theorem indexFunc_any (v1 : Value) (L : List (List UInt8)) (w : World) (h1 : Row w v1 L.length (L.map Proofs.encStr)) (hl : L.length ≤ 1000000) (hs : ∀ y ∈ L, y.length ≤ maxLen) :
    Calls Tryz.prog 54 #[v1, .func (.func 35) #[] #[]] w fun e w' => (∃ i : Int, e = .returned (.int .i64 i) ∧ decide (0 ≤ i) = L.any resv) ∧ Below w.heap.size w w' := by
  obtain ⟨a1, c1, rfl, hc1, h1⟩ := h1
  have H1 := Lib.hid h1; clear h1
  have HS := Lib.hid hs; clear hs
  go_enter Tryz.func54, Tryz.ntmps54
  go_wp2_with fail
  go_loopw [5, 8] (fun _ i wr => ∃ j : Nat, j ≤ L.length ∧ i = .int .i64 j ∧ Below w.heap.size w wr ∧ Hid ((L.take j).any resv = false)) (fun _ i _ => L.length - (intOf i).toNat)
  case atStart => exact ⟨0, Nat.zero_le _, rfl, Below.refl _ _, Lib.hid (by simp)⟩
  case round =>
    obtain ⟨j, hj, rfl, hbel, Hno⟩ := hrel
    have HBEL := Lib.hid hbel; clear hbel
    by_cases hlt : j < L.length
    · obtain ⟨y, hy⟩ : ∃ y, L[j]? = some y := ⟨_, List.getElem?_eq_getElem hlt⟩
      obtain ⟨g, o, rfl, hg, hc⟩ := H1.out (by intro e; rw [List.map_eq_nil_iff] at e; rw [e] at hlt; exact absurd hlt (Nat.not_lt_zero _))
      have hcy : wr.cell? ⟨g, o + j, none⟩ = some (.string ⟨y.toArray⟩) := by
        rw [HBEL.out.cell (p := ⟨g, o + j, none⟩) hg, hc j (by rw [List.length_map]; exact hlt), List.getElem?_map, hy]; rfl
      clear hc
      have hi0 : (0 : Int) ≤ (j : Int) := by omega
      have hi1 : (j : Int) < (L.length : Int) := by omega
      have hsz : w.heap.size ≤ wr.heap.size := HBEL.out.size
      have hgw : g < wr.heap.size := by omega
      have hmem : y ∈ L := List.mem_of_getElem? hy
      have hcall := reserved_any ⟨y.toArray⟩ wr (by have := HS.out y hmem; show y.toArray.size ≤ maxLen; simpa using this)
      obtain ⟨r, hr⟩ : ∃ r, resv y = r := ⟨_, rfl⟩
      have hr' : decide (0 < (namedL ⟨y.toArray⟩).length) = r := hr
      rw [hr'] at hcall
      have HCALL := Lib.hid hcall; clear hcall
      have HR := Lib.hid hr; clear hr hr'
      have HY := Lib.hid hy; clear hy
      have HM := Lib.hid hmem; clear hmem
      go_wp2_with fail
      refine HCALL.out.mono ?_
      rintro e w1 ⟨rfl, hb⟩
      have HB := Lib.hid (HBEL.out.trans (hb.mono hsz)); clear hb
      cases r with
      | true =>
        go_wp2_with fail
        go_ret
        exact ⟨⟨j, rfl, by rw [decide_eq_true hi0]; exact (List.any_eq_true.2 ⟨y, HM.out, HR.out⟩).symm⟩, HB.out⟩
      | false =>
        go_wp2_with fail
        go_roundw
        case rel => exact ⟨j + 1, by omega, by go_num, HB.out, Lib.hid (by rw [List.take_add_one, HY.out]; simp [Hno.out, HR.out])⟩
        case measure => simp [intOf]; omega
    · obtain rfl : j = L.length := by omega
      have hno : L.any resv = false := by have := Hno.out; rwa [List.take_length] at this
      have HNO := Lib.hid hno; clear hno
      go_wp2_with fail
      go_ret
      exact ⟨⟨-1, rfl, by rw [HNO.out]; rfl⟩, HBEL.out⟩

theorem containsFunc_any (v1 : Value) (L : List (List UInt8)) (w : World) (h1 : Row w v1 L.length (L.map Proofs.encStr)) (hl : L.length ≤ 1000000) (hs : ∀ y ∈ L, y.length ≤ maxLen) :
    Calls Tryz.prog 34 #[v1, .func (.func 35) #[] #[]] w fun e w' => e = .returned (.bool (L.any resv)) ∧ Below w.heap.size w w' := by
  have hc := indexFunc_any v1 L w h1 hl hs
  have HC := Lib.hid hc; clear hc h1 hs
  go_enter Tryz.func34, Tryz.ntmps34
  go_wp2_with fail
  refine HC.out.mono ?_
  rintro e w1 ⟨⟨i, rfl, hi⟩, hb⟩
  have HI := Lib.hid hi; clear hi
  have HB := Lib.hid hb; clear hb
  go_wp2_with fail
  go_ret
  exact ⟨by rw [← HI.out]; rfl, HB.out⟩
end Go.Proofs.YtpkbonfbehhbdaaGreatDoor
