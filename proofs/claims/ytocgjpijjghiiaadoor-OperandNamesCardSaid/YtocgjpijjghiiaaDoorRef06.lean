/- breadboardref06: name, Valid, signed, Text. (Written by wip/gen_ref06.py.) -/
import Derived.Test.YtocgjpijjghiiaaDoorOpText
import Derived.Test.YtocgjpijjghiiaaDoorRef01
namespace Go.Proofs.YtocgjpijjghiiaaDoor
open Go.RowKit Go.Sort

/-- The names of the reference, by kind and number. -/
def rnm : Nat → Nat → ByteArray
  | 1, 0 => ⟨#[66]⟩
  | 1, 1 => ⟨#[67]⟩
  | 1, 2 => ⟨#[68]⟩
  | 1, 3 => ⟨#[69]⟩
  | 1, 4 => ⟨#[72]⟩
  | 1, 5 => ⟨#[76]⟩
  | 1, 6 => ⟨#[]⟩
  | 1, 7 => ⟨#[65]⟩
  | 2, 0 => ⟨#[73, 88, 72]⟩
  | 2, 1 => ⟨#[73, 88, 76]⟩
  | 2, 2 => ⟨#[73, 89, 72]⟩
  | 2, 3 => ⟨#[73, 89, 76]⟩
  | 3, 0 => ⟨#[66, 67]⟩
  | 3, 1 => ⟨#[68, 69]⟩
  | 3, 2 => ⟨#[72, 76]⟩
  | 3, 3 => ⟨#[83, 80]⟩
  | 3, 4 => ⟨#[65, 70]⟩
  | 3, 5 => ⟨#[73, 88]⟩
  | 3, 6 => ⟨#[73, 89]⟩
  | 3, 7 => ⟨#[65, 70, 39]⟩
  | 4, 0 => ⟨#[40, 66, 67, 41]⟩
  | 4, 1 => ⟨#[40, 68, 69, 41]⟩
  | 4, 2 => ⟨#[40, 72, 76, 41]⟩
  | 4, 3 => ⟨#[40, 83, 80, 41]⟩
  | 4, 4 => ⟨#[]⟩
  | 4, 5 => ⟨#[40, 73, 88, 41]⟩
  | 4, 6 => ⟨#[40, 73, 89, 41]⟩
  | 4, 7 => ⟨#[]⟩
  | 4, 8 => ⟨#[40, 67, 41]⟩
  | 5, 0 => ⟨#[]⟩
  | 5, 1 => ⟨#[]⟩
  | 5, 2 => ⟨#[]⟩
  | 5, 3 => ⟨#[]⟩
  | 5, 4 => ⟨#[]⟩
  | 5, 5 => ⟨#[73, 88]⟩
  | 5, 6 => ⟨#[73, 89]⟩
  | 8, 0 => ⟨#[78, 90]⟩
  | 8, 1 => ⟨#[90]⟩
  | 8, 2 => ⟨#[78, 67]⟩
  | 8, 3 => ⟨#[67]⟩
  | 8, 4 => ⟨#[80, 79]⟩
  | 8, 5 => ⟨#[80, 69]⟩
  | 8, 6 => ⟨#[80]⟩
  | 8, 7 => ⟨#[77]⟩
  | 9, 0 => ⟨#[73]⟩
  | 9, 1 => ⟨#[82]⟩
  | _, _ => ⟨#[]⟩
def rcount : Nat → Nat | 1 => 8 | 2 => 4 | 3 => 8 | 4 => 9 | 5 => 7 | 8 => 8 | 9 => 2 | _ => 0
/-- The name of a register of a kind. -/
def rname (k r : Int) : ByteArray := if 0 ≤ r ∧ r < rcount k.toNat then rnm k.toNat r.toNat else ⟨#[]⟩

theorem rget_1 (r : Nat) (h : r < 8) : [Value.string ⟨#[66]⟩, .string ⟨#[67]⟩, .string ⟨#[68]⟩, .string ⟨#[69]⟩, .string ⟨#[72]⟩, .string ⟨#[76]⟩, .string ⟨#[]⟩, .string ⟨#[65]⟩][r]? = some (.string (rnm 1 r)) := by
  have hr : r = 0 ∨ r = 1 ∨ r = 2 ∨ r = 3 ∨ r = 4 ∨ r = 5 ∨ r = 6 ∨ r = 7 := by omega
  rcases hr with rfl | rfl | rfl | rfl | rfl | rfl | rfl | rfl <;> rfl
set_option maxHeartbeats 1000000 in
theorem rname_1 (r : Int) (w : World) :
    Calls Tryd.prog 28 #[.int .i64 1, .int .i64 r] w fun e w' => e = .returned (.string (rname 1 r)) ∧ Below w.heap.size w w' := by
  by_cases h1 : r < 0
  · have hr : rname 1 r = ⟨#[]⟩ := by unfold rname; rw [if_neg (by omega)]
    rw [hr]
    go_enter Tryd.func28, Tryd.ntmps28
    go_wp2
    go_ret
    exact ⟨rfl, by (repeat (first | exact Below.refl _ _ | refine Below.drew ?_ | (refine below_gw' ?_ (by first | omega | (simp [go_sem]; done) | (simp [go_sem]; omega)) _) | (refine Below.alloc ?_ (by first | omega | (simp [go_sem]; done) | (simp [go_sem]; omega)) _) | (refine Below.setCell ?_ (by first | omega | (simp [go_sem]; done) | (simp [go_sem]; omega)) _)))⟩
  · by_cases h2 : 8 ≤ r
    · have hr : rname 1 r = ⟨#[]⟩ := by unfold rname; rw [if_neg (by show ¬ (0 ≤ r ∧ r < 8); omega)]
      rw [hr]
      go_enter Tryd.func28, Tryd.ntmps28
      go_wp2
      go_ret
      exact ⟨rfl, by (repeat (first | exact Below.refl _ _ | refine Below.drew ?_ | (refine below_gw' ?_ (by first | omega | (simp [go_sem]; done) | (simp [go_sem]; omega)) _) | (refine Below.alloc ?_ (by first | omega | (simp [go_sem]; done) | (simp [go_sem]; omega)) _) | (refine Below.setCell ?_ (by first | omega | (simp [go_sem]; done) | (simp [go_sem]; omega)) _)))⟩
    · obtain ⟨m, rfl⟩ := Int.eq_ofNat_of_zero_le (show 0 ≤ r by omega)
      have hr : rname 1 m = rnm 1 m := by unfold rname; rw [if_pos (by show (0 : Int) ≤ m ∧ (m : Int) < 8; omega)]; rfl
      rw [hr]
      have hg := rget_1 m (by omega)
      have h3 : (0 : Int) ≤ (m : Int) := by omega
      have h4 : (m : Int) < 8 := by omega
      clear h1 h2 hr
      go_enter Tryd.func28, Tryd.ntmps28
      go_wp2
      go_ret
      exact ⟨rfl, by (repeat (first | exact Below.refl _ _ | refine Below.drew ?_ | (refine below_gw' ?_ (by first | omega | (simp [go_sem]; done) | (simp [go_sem]; omega)) _) | (refine Below.alloc ?_ (by first | omega | (simp [go_sem]; done) | (simp [go_sem]; omega)) _) | (refine Below.setCell ?_ (by first | omega | (simp [go_sem]; done) | (simp [go_sem]; omega)) _)))⟩

theorem rget_2 (r : Nat) (h : r < 4) : [Value.string ⟨#[73, 88, 72]⟩, .string ⟨#[73, 88, 76]⟩, .string ⟨#[73, 89, 72]⟩, .string ⟨#[73, 89, 76]⟩][r]? = some (.string (rnm 2 r)) := by
  have hr : r = 0 ∨ r = 1 ∨ r = 2 ∨ r = 3 := by omega
  rcases hr with rfl | rfl | rfl | rfl <;> rfl
set_option maxHeartbeats 1000000 in
theorem rname_2 (r : Int) (w : World) :
    Calls Tryd.prog 28 #[.int .i64 2, .int .i64 r] w fun e w' => e = .returned (.string (rname 2 r)) ∧ Below w.heap.size w w' := by
  by_cases h1 : r < 0
  · have hr : rname 2 r = ⟨#[]⟩ := by unfold rname; rw [if_neg (by omega)]
    rw [hr]
    go_enter Tryd.func28, Tryd.ntmps28
    go_wp2
    go_ret
    exact ⟨rfl, by (repeat (first | exact Below.refl _ _ | refine Below.drew ?_ | (refine below_gw' ?_ (by first | omega | (simp [go_sem]; done) | (simp [go_sem]; omega)) _) | (refine Below.alloc ?_ (by first | omega | (simp [go_sem]; done) | (simp [go_sem]; omega)) _) | (refine Below.setCell ?_ (by first | omega | (simp [go_sem]; done) | (simp [go_sem]; omega)) _)))⟩
  · by_cases h2 : 4 ≤ r
    · have hr : rname 2 r = ⟨#[]⟩ := by unfold rname; rw [if_neg (by show ¬ (0 ≤ r ∧ r < 4); omega)]
      rw [hr]
      go_enter Tryd.func28, Tryd.ntmps28
      go_wp2
      go_ret
      exact ⟨rfl, by (repeat (first | exact Below.refl _ _ | refine Below.drew ?_ | (refine below_gw' ?_ (by first | omega | (simp [go_sem]; done) | (simp [go_sem]; omega)) _) | (refine Below.alloc ?_ (by first | omega | (simp [go_sem]; done) | (simp [go_sem]; omega)) _) | (refine Below.setCell ?_ (by first | omega | (simp [go_sem]; done) | (simp [go_sem]; omega)) _)))⟩
    · obtain ⟨m, rfl⟩ := Int.eq_ofNat_of_zero_le (show 0 ≤ r by omega)
      have hr : rname 2 m = rnm 2 m := by unfold rname; rw [if_pos (by show (0 : Int) ≤ m ∧ (m : Int) < 4; omega)]; rfl
      rw [hr]
      have hg := rget_2 m (by omega)
      have h3 : (0 : Int) ≤ (m : Int) := by omega
      have h4 : (m : Int) < 4 := by omega
      clear h1 h2 hr
      go_enter Tryd.func28, Tryd.ntmps28
      go_wp2
      go_ret
      exact ⟨rfl, by (repeat (first | exact Below.refl _ _ | refine Below.drew ?_ | (refine below_gw' ?_ (by first | omega | (simp [go_sem]; done) | (simp [go_sem]; omega)) _) | (refine Below.alloc ?_ (by first | omega | (simp [go_sem]; done) | (simp [go_sem]; omega)) _) | (refine Below.setCell ?_ (by first | omega | (simp [go_sem]; done) | (simp [go_sem]; omega)) _)))⟩

theorem rget_3 (r : Nat) (h : r < 8) : [Value.string ⟨#[66, 67]⟩, .string ⟨#[68, 69]⟩, .string ⟨#[72, 76]⟩, .string ⟨#[83, 80]⟩, .string ⟨#[65, 70]⟩, .string ⟨#[73, 88]⟩, .string ⟨#[73, 89]⟩, .string ⟨#[65, 70, 39]⟩][r]? = some (.string (rnm 3 r)) := by
  have hr : r = 0 ∨ r = 1 ∨ r = 2 ∨ r = 3 ∨ r = 4 ∨ r = 5 ∨ r = 6 ∨ r = 7 := by omega
  rcases hr with rfl | rfl | rfl | rfl | rfl | rfl | rfl | rfl <;> rfl
set_option maxHeartbeats 1000000 in
theorem rname_3 (r : Int) (w : World) :
    Calls Tryd.prog 28 #[.int .i64 3, .int .i64 r] w fun e w' => e = .returned (.string (rname 3 r)) ∧ Below w.heap.size w w' := by
  by_cases h1 : r < 0
  · have hr : rname 3 r = ⟨#[]⟩ := by unfold rname; rw [if_neg (by omega)]
    rw [hr]
    go_enter Tryd.func28, Tryd.ntmps28
    go_wp2
    go_ret
    exact ⟨rfl, by (repeat (first | exact Below.refl _ _ | refine Below.drew ?_ | (refine below_gw' ?_ (by first | omega | (simp [go_sem]; done) | (simp [go_sem]; omega)) _) | (refine Below.alloc ?_ (by first | omega | (simp [go_sem]; done) | (simp [go_sem]; omega)) _) | (refine Below.setCell ?_ (by first | omega | (simp [go_sem]; done) | (simp [go_sem]; omega)) _)))⟩
  · by_cases h2 : 8 ≤ r
    · have hr : rname 3 r = ⟨#[]⟩ := by unfold rname; rw [if_neg (by show ¬ (0 ≤ r ∧ r < 8); omega)]
      rw [hr]
      go_enter Tryd.func28, Tryd.ntmps28
      go_wp2
      go_ret
      exact ⟨rfl, by (repeat (first | exact Below.refl _ _ | refine Below.drew ?_ | (refine below_gw' ?_ (by first | omega | (simp [go_sem]; done) | (simp [go_sem]; omega)) _) | (refine Below.alloc ?_ (by first | omega | (simp [go_sem]; done) | (simp [go_sem]; omega)) _) | (refine Below.setCell ?_ (by first | omega | (simp [go_sem]; done) | (simp [go_sem]; omega)) _)))⟩
    · obtain ⟨m, rfl⟩ := Int.eq_ofNat_of_zero_le (show 0 ≤ r by omega)
      have hr : rname 3 m = rnm 3 m := by unfold rname; rw [if_pos (by show (0 : Int) ≤ m ∧ (m : Int) < 8; omega)]; rfl
      rw [hr]
      have hg := rget_3 m (by omega)
      have h3 : (0 : Int) ≤ (m : Int) := by omega
      have h4 : (m : Int) < 8 := by omega
      clear h1 h2 hr
      go_enter Tryd.func28, Tryd.ntmps28
      go_wp2
      go_ret
      exact ⟨rfl, by (repeat (first | exact Below.refl _ _ | refine Below.drew ?_ | (refine below_gw' ?_ (by first | omega | (simp [go_sem]; done) | (simp [go_sem]; omega)) _) | (refine Below.alloc ?_ (by first | omega | (simp [go_sem]; done) | (simp [go_sem]; omega)) _) | (refine Below.setCell ?_ (by first | omega | (simp [go_sem]; done) | (simp [go_sem]; omega)) _)))⟩

theorem rget_4 (r : Nat) (h : r < 9) : [Value.string ⟨#[40, 66, 67, 41]⟩, .string ⟨#[40, 68, 69, 41]⟩, .string ⟨#[40, 72, 76, 41]⟩, .string ⟨#[40, 83, 80, 41]⟩, .string ⟨#[]⟩, .string ⟨#[40, 73, 88, 41]⟩, .string ⟨#[40, 73, 89, 41]⟩, .string ⟨#[]⟩, .string ⟨#[40, 67, 41]⟩][r]? = some (.string (rnm 4 r)) := by
  have hr : r = 0 ∨ r = 1 ∨ r = 2 ∨ r = 3 ∨ r = 4 ∨ r = 5 ∨ r = 6 ∨ r = 7 ∨ r = 8 := by omega
  rcases hr with rfl | rfl | rfl | rfl | rfl | rfl | rfl | rfl | rfl <;> rfl
set_option maxHeartbeats 1000000 in
theorem rname_4 (r : Int) (w : World) :
    Calls Tryd.prog 28 #[.int .i64 4, .int .i64 r] w fun e w' => e = .returned (.string (rname 4 r)) ∧ Below w.heap.size w w' := by
  by_cases h1 : r < 0
  · have hr : rname 4 r = ⟨#[]⟩ := by unfold rname; rw [if_neg (by omega)]
    rw [hr]
    go_enter Tryd.func28, Tryd.ntmps28
    go_wp2
    go_ret
    exact ⟨rfl, by (repeat (first | exact Below.refl _ _ | refine Below.drew ?_ | (refine below_gw' ?_ (by first | omega | (simp [go_sem]; done) | (simp [go_sem]; omega)) _) | (refine Below.alloc ?_ (by first | omega | (simp [go_sem]; done) | (simp [go_sem]; omega)) _) | (refine Below.setCell ?_ (by first | omega | (simp [go_sem]; done) | (simp [go_sem]; omega)) _)))⟩
  · by_cases h2 : 9 ≤ r
    · have hr : rname 4 r = ⟨#[]⟩ := by unfold rname; rw [if_neg (by show ¬ (0 ≤ r ∧ r < 9); omega)]
      rw [hr]
      go_enter Tryd.func28, Tryd.ntmps28
      go_wp2
      go_ret
      exact ⟨rfl, by (repeat (first | exact Below.refl _ _ | refine Below.drew ?_ | (refine below_gw' ?_ (by first | omega | (simp [go_sem]; done) | (simp [go_sem]; omega)) _) | (refine Below.alloc ?_ (by first | omega | (simp [go_sem]; done) | (simp [go_sem]; omega)) _) | (refine Below.setCell ?_ (by first | omega | (simp [go_sem]; done) | (simp [go_sem]; omega)) _)))⟩
    · obtain ⟨m, rfl⟩ := Int.eq_ofNat_of_zero_le (show 0 ≤ r by omega)
      have hr : rname 4 m = rnm 4 m := by unfold rname; rw [if_pos (by show (0 : Int) ≤ m ∧ (m : Int) < 9; omega)]; rfl
      rw [hr]
      have hg := rget_4 m (by omega)
      have h3 : (0 : Int) ≤ (m : Int) := by omega
      have h4 : (m : Int) < 9 := by omega
      clear h1 h2 hr
      go_enter Tryd.func28, Tryd.ntmps28
      go_wp2
      go_ret
      exact ⟨rfl, by (repeat (first | exact Below.refl _ _ | refine Below.drew ?_ | (refine below_gw' ?_ (by first | omega | (simp [go_sem]; done) | (simp [go_sem]; omega)) _) | (refine Below.alloc ?_ (by first | omega | (simp [go_sem]; done) | (simp [go_sem]; omega)) _) | (refine Below.setCell ?_ (by first | omega | (simp [go_sem]; done) | (simp [go_sem]; omega)) _)))⟩

theorem rget_5 (r : Nat) (h : r < 7) : [Value.string ⟨#[]⟩, .string ⟨#[]⟩, .string ⟨#[]⟩, .string ⟨#[]⟩, .string ⟨#[]⟩, .string ⟨#[73, 88]⟩, .string ⟨#[73, 89]⟩][r]? = some (.string (rnm 5 r)) := by
  have hr : r = 0 ∨ r = 1 ∨ r = 2 ∨ r = 3 ∨ r = 4 ∨ r = 5 ∨ r = 6 := by omega
  rcases hr with rfl | rfl | rfl | rfl | rfl | rfl | rfl <;> rfl
set_option maxHeartbeats 1000000 in
theorem rname_5 (r : Int) (w : World) :
    Calls Tryd.prog 28 #[.int .i64 5, .int .i64 r] w fun e w' => e = .returned (.string (rname 5 r)) ∧ Below w.heap.size w w' := by
  by_cases h1 : r < 0
  · have hr : rname 5 r = ⟨#[]⟩ := by unfold rname; rw [if_neg (by omega)]
    rw [hr]
    go_enter Tryd.func28, Tryd.ntmps28
    go_wp2
    go_ret
    exact ⟨rfl, by (repeat (first | exact Below.refl _ _ | refine Below.drew ?_ | (refine below_gw' ?_ (by first | omega | (simp [go_sem]; done) | (simp [go_sem]; omega)) _) | (refine Below.alloc ?_ (by first | omega | (simp [go_sem]; done) | (simp [go_sem]; omega)) _) | (refine Below.setCell ?_ (by first | omega | (simp [go_sem]; done) | (simp [go_sem]; omega)) _)))⟩
  · by_cases h2 : 7 ≤ r
    · have hr : rname 5 r = ⟨#[]⟩ := by unfold rname; rw [if_neg (by show ¬ (0 ≤ r ∧ r < 7); omega)]
      rw [hr]
      go_enter Tryd.func28, Tryd.ntmps28
      go_wp2
      go_ret
      exact ⟨rfl, by (repeat (first | exact Below.refl _ _ | refine Below.drew ?_ | (refine below_gw' ?_ (by first | omega | (simp [go_sem]; done) | (simp [go_sem]; omega)) _) | (refine Below.alloc ?_ (by first | omega | (simp [go_sem]; done) | (simp [go_sem]; omega)) _) | (refine Below.setCell ?_ (by first | omega | (simp [go_sem]; done) | (simp [go_sem]; omega)) _)))⟩
    · obtain ⟨m, rfl⟩ := Int.eq_ofNat_of_zero_le (show 0 ≤ r by omega)
      have hr : rname 5 m = rnm 5 m := by unfold rname; rw [if_pos (by show (0 : Int) ≤ m ∧ (m : Int) < 7; omega)]; rfl
      rw [hr]
      have hg := rget_5 m (by omega)
      have h3 : (0 : Int) ≤ (m : Int) := by omega
      have h4 : (m : Int) < 7 := by omega
      clear h1 h2 hr
      go_enter Tryd.func28, Tryd.ntmps28
      go_wp2
      go_ret
      exact ⟨rfl, by (repeat (first | exact Below.refl _ _ | refine Below.drew ?_ | (refine below_gw' ?_ (by first | omega | (simp [go_sem]; done) | (simp [go_sem]; omega)) _) | (refine Below.alloc ?_ (by first | omega | (simp [go_sem]; done) | (simp [go_sem]; omega)) _) | (refine Below.setCell ?_ (by first | omega | (simp [go_sem]; done) | (simp [go_sem]; omega)) _)))⟩

theorem rget_8 (r : Nat) (h : r < 8) : [Value.string ⟨#[78, 90]⟩, .string ⟨#[90]⟩, .string ⟨#[78, 67]⟩, .string ⟨#[67]⟩, .string ⟨#[80, 79]⟩, .string ⟨#[80, 69]⟩, .string ⟨#[80]⟩, .string ⟨#[77]⟩][r]? = some (.string (rnm 8 r)) := by
  have hr : r = 0 ∨ r = 1 ∨ r = 2 ∨ r = 3 ∨ r = 4 ∨ r = 5 ∨ r = 6 ∨ r = 7 := by omega
  rcases hr with rfl | rfl | rfl | rfl | rfl | rfl | rfl | rfl <;> rfl
set_option maxHeartbeats 1000000 in
theorem rname_8 (r : Int) (w : World) :
    Calls Tryd.prog 28 #[.int .i64 8, .int .i64 r] w fun e w' => e = .returned (.string (rname 8 r)) ∧ Below w.heap.size w w' := by
  by_cases h1 : r < 0
  · have hr : rname 8 r = ⟨#[]⟩ := by unfold rname; rw [if_neg (by omega)]
    rw [hr]
    go_enter Tryd.func28, Tryd.ntmps28
    go_wp2
    go_ret
    exact ⟨rfl, by (repeat (first | exact Below.refl _ _ | refine Below.drew ?_ | (refine below_gw' ?_ (by first | omega | (simp [go_sem]; done) | (simp [go_sem]; omega)) _) | (refine Below.alloc ?_ (by first | omega | (simp [go_sem]; done) | (simp [go_sem]; omega)) _) | (refine Below.setCell ?_ (by first | omega | (simp [go_sem]; done) | (simp [go_sem]; omega)) _)))⟩
  · by_cases h2 : 8 ≤ r
    · have hr : rname 8 r = ⟨#[]⟩ := by unfold rname; rw [if_neg (by show ¬ (0 ≤ r ∧ r < 8); omega)]
      rw [hr]
      go_enter Tryd.func28, Tryd.ntmps28
      go_wp2
      go_ret
      exact ⟨rfl, by (repeat (first | exact Below.refl _ _ | refine Below.drew ?_ | (refine below_gw' ?_ (by first | omega | (simp [go_sem]; done) | (simp [go_sem]; omega)) _) | (refine Below.alloc ?_ (by first | omega | (simp [go_sem]; done) | (simp [go_sem]; omega)) _) | (refine Below.setCell ?_ (by first | omega | (simp [go_sem]; done) | (simp [go_sem]; omega)) _)))⟩
    · obtain ⟨m, rfl⟩ := Int.eq_ofNat_of_zero_le (show 0 ≤ r by omega)
      have hr : rname 8 m = rnm 8 m := by unfold rname; rw [if_pos (by show (0 : Int) ≤ m ∧ (m : Int) < 8; omega)]; rfl
      rw [hr]
      have hg := rget_8 m (by omega)
      have h3 : (0 : Int) ≤ (m : Int) := by omega
      have h4 : (m : Int) < 8 := by omega
      clear h1 h2 hr
      go_enter Tryd.func28, Tryd.ntmps28
      go_wp2
      go_ret
      exact ⟨rfl, by (repeat (first | exact Below.refl _ _ | refine Below.drew ?_ | (refine below_gw' ?_ (by first | omega | (simp [go_sem]; done) | (simp [go_sem]; omega)) _) | (refine Below.alloc ?_ (by first | omega | (simp [go_sem]; done) | (simp [go_sem]; omega)) _) | (refine Below.setCell ?_ (by first | omega | (simp [go_sem]; done) | (simp [go_sem]; omega)) _)))⟩

theorem rget_9 (r : Nat) (h : r < 2) : [Value.string ⟨#[73]⟩, .string ⟨#[82]⟩][r]? = some (.string (rnm 9 r)) := by
  have hr : r = 0 ∨ r = 1 := by omega
  rcases hr with rfl | rfl <;> rfl
set_option maxHeartbeats 1000000 in
theorem rname_9 (r : Int) (w : World) :
    Calls Tryd.prog 28 #[.int .i64 9, .int .i64 r] w fun e w' => e = .returned (.string (rname 9 r)) ∧ Below w.heap.size w w' := by
  by_cases h1 : r < 0
  · have hr : rname 9 r = ⟨#[]⟩ := by unfold rname; rw [if_neg (by omega)]
    rw [hr]
    go_enter Tryd.func28, Tryd.ntmps28
    go_wp2
    go_ret
    exact ⟨rfl, by (repeat (first | exact Below.refl _ _ | refine Below.drew ?_ | (refine below_gw' ?_ (by first | omega | (simp [go_sem]; done) | (simp [go_sem]; omega)) _) | (refine Below.alloc ?_ (by first | omega | (simp [go_sem]; done) | (simp [go_sem]; omega)) _) | (refine Below.setCell ?_ (by first | omega | (simp [go_sem]; done) | (simp [go_sem]; omega)) _)))⟩
  · by_cases h2 : 2 ≤ r
    · have hr : rname 9 r = ⟨#[]⟩ := by unfold rname; rw [if_neg (by show ¬ (0 ≤ r ∧ r < 2); omega)]
      rw [hr]
      go_enter Tryd.func28, Tryd.ntmps28
      go_wp2
      go_ret
      exact ⟨rfl, by (repeat (first | exact Below.refl _ _ | refine Below.drew ?_ | (refine below_gw' ?_ (by first | omega | (simp [go_sem]; done) | (simp [go_sem]; omega)) _) | (refine Below.alloc ?_ (by first | omega | (simp [go_sem]; done) | (simp [go_sem]; omega)) _) | (refine Below.setCell ?_ (by first | omega | (simp [go_sem]; done) | (simp [go_sem]; omega)) _)))⟩
    · obtain ⟨m, rfl⟩ := Int.eq_ofNat_of_zero_le (show 0 ≤ r by omega)
      have hr : rname 9 m = rnm 9 m := by unfold rname; rw [if_pos (by show (0 : Int) ≤ m ∧ (m : Int) < 2; omega)]; rfl
      rw [hr]
      have hg := rget_9 m (by omega)
      have h3 : (0 : Int) ≤ (m : Int) := by omega
      have h4 : (m : Int) < 2 := by omega
      clear h1 h2 hr
      go_enter Tryd.func28, Tryd.ntmps28
      go_wp2
      go_ret
      exact ⟨rfl, by (repeat (first | exact Below.refl _ _ | refine Below.drew ?_ | (refine below_gw' ?_ (by first | omega | (simp [go_sem]; done) | (simp [go_sem]; omega)) _) | (refine Below.alloc ?_ (by first | omega | (simp [go_sem]; done) | (simp [go_sem]; omega)) _) | (refine Below.setCell ?_ (by first | omega | (simp [go_sem]; done) | (simp [go_sem]; omega)) _)))⟩

/-- The kinds that have registers. -/
theorem rname_any (k r : Int) (w : World) (hk : k = 1 ∨ k = 2 ∨ k = 3 ∨ k = 4 ∨ k = 5 ∨ k = 8 ∨ k = 9) :
    Calls Tryd.prog 28 #[.int .i64 k, .int .i64 r] w fun e w' => e = .returned (.string (rname k r)) ∧ Below w.heap.size w w' := by
  rcases hk with rfl | rfl | rfl | rfl | rfl | rfl | rfl
  · exact rname_1 r w
  · exact rname_2 r w
  · exact rname_3 r w
  · exact rname_4 r w
  · exact rname_5 r w
  · exact rname_8 r w
  · exact rname_9 r w

set_option maxHeartbeats 400000 in
theorem rsigned_any (n : Int) (w : World) (h1 : -1000000 ≤ n) (h2 : n ≤ 1000000) :
    Calls Tryd.prog 29 #[.int .i64 n] w fun e w' => e = .returned (.string (signedS n)) ∧ w = w' := by
  by_cases h : n < 0
  · have hr : signedS n = (⟨#[45]⟩ : ByteArray) ++ numText (-n) := by unfold signedS; rw [if_pos h]
    have hl := numText_len (-n)
    rw [hr]
    go_enter Tryd.func29, Tryd.ntmps29
    go_wp2_with fail
    refine (ref01Text_any _ _).mono ?_
    rintro e w2 ⟨rfl, rfl⟩
    go_wp2_with fail
    go_ret
    exact ⟨rfl, rfl⟩
  · have hr : signedS n = (⟨#[43]⟩ : ByteArray) ++ numText n := by unfold signedS; rw [if_neg h]
    have hl := numText_len n
    rw [hr]
    go_enter Tryd.func29, Tryd.ntmps29
    go_wp2_with fail
    refine (ref01Text_any _ _).mono ?_
    rintro e w2 ⟨rfl, rfl⟩
    go_wp2_with fail
    go_ret
    exact ⟨rfl, rfl⟩

/-- Whether an operand is valid, as the reference says it. -/
def rvalid (k r n : Int) : Bool :=
  if k = 1 ∨ k = 2 ∨ k = 3 ∨ k = 4 ∨ k = 8 ∨ k = 9 then !(rname k r).toList.isEmpty && (n == 0)
  else if k = 5 then !(rname 5 r).toList.isEmpty && decide (-128 ≤ n) && decide (n ≤ 127)
  else if k = 6 then (r == 0) && decide (-32768 ≤ n) && decide (n ≤ 65535)
  else if k = 7 then (r == 0) && decide (0 ≤ n) && decide (n ≤ 65535)
  else if k = 10 then (r == 0) && decide (-128 ≤ n) && decide (n ≤ 127)
  else false
end Go.Proofs.YtocgjpijjghiiaaDoor

