/- The examples of chapter 6. -/
import Derived.Test.YtocgjpijjghiiaaDoorOpText
import Derived.Test.YtocgjpijjghiiaaDoorNamed
import Derived.Test.YtocgjpijjghiiaaDoorOpEq
namespace Go.Proofs.YtocgjpijjghiiaaDoor
open Go.RowKit Go.Sort

theorem opCells_opc (l : List (Nat × Nat)) : opCells l = opc (l.map fun x => ((x.1 : Int), (x.2 : Int), (0 : Int))) := by
  induction l with
  | nil => rfl
  | cons a l ih =>
    show [Value.int .i64 a.1, .int .i64 a.2, .int .i64 0] ++ opCells l = [Value.int .i64 a.1, .int .i64 a.2, .int .i64 0] ++ opc _
    rw [ih]
/-- The operands that a name denotes, as operands. -/
def namedO (s : ByteArray) : List Op3 := (namedL s).map fun x => ((x.1 : Int), (x.2 : Int), (0 : Int))
theorem namedO_any (s : ByteArray) (w : World) (hs : s.size ≤ maxLen) :
    Calls Tryd.prog 13 #[.string s] w fun e w' => ∃ v, e = .returned v ∧ Row w' v (namedO s).length (opc (namedO s)) ∧ Below w.heap.size w w' :=
  (named_any s w hs).mono fun e w' ⟨v, he, hr, hb⟩ => ⟨v, he, by unfold namedO; rw [List.length_map, ← opCells_opc]; exact hr, hb⟩
theorem namedO_len (s : ByteArray) : (namedO s).length ≤ 45 := by
  unfold namedO; rw [List.length_map]; exact wlist_len _ 5

theorem alive06_t1 : opText 5 5 (-3) = ⟨#[40, 73, 88, 45, 51, 41]⟩ := by decide +kernel
theorem alive06_t2 : opText 10 0 (-2) = ⟨#[36, 43, 48]⟩ := by decide +kernel
theorem alive06_t3 : namedO ⟨#[99]⟩ = [(1, 1, 0), (8, 3, 0)] := by decide +kernel

set_option maxHeartbeats 1000000 in
set_option maxRecDepth 100000 in
theorem alive06 (w : World) (hT : Tabs w) :
    Calls Tryd.prog 8 #[] w fun e w' => e = .returned (.bool true) ∧ Below w.heap.size w w' := by
  have HT := Lib.hid hT; clear hT
  go_enter Tryd.func8, Tryd.ntmps8
  go_wp2_with fail
  refine (text_any 5 5 (-3) _ HT.out).mono ?_
  rintro e w1 ⟨rfl, hb⟩
  obtain ⟨p1, rfl⟩ := gw_of_below hb
  clear hb
  rw [alive06_t1]
  go_wp2_with fail
  refine (text_any 10 0 (-2) _ (HT.out.below (by (repeat (first | exact Below.refl _ _ | refine Below.drew ?_ | (refine below_gw' ?_ (by first | omega | (simp [go_sem]; done) | (simp [go_sem]; omega)) _) | (refine Below.alloc ?_ (by first | omega | (simp [go_sem]; done) | (simp [go_sem]; omega)) _) | (refine Below.setCell ?_ (by first | omega | (simp [go_sem]; done) | (simp [go_sem]; omega)) _)))))).mono ?_
  rintro e w1 ⟨rfl, hb⟩
  obtain ⟨p2, rfl⟩ := gw_of_below hb
  clear hb
  rw [alive06_t2]
  go_wp2_with fail
  refine (namedO_any ⟨#[99]⟩ _ (by decide)).mono ?_
  rintro e w1 ⟨v, rfl, hr, hb⟩
  obtain ⟨p3, rfl⟩ := gw_of_below hb
  clear hb
  rw [alive06_t3] at hr
  have HR := Lib.hid hr; clear hr
  go_wp2_with fail
  refine (equalOp_any v _ [(1, 1, 0), (8, 3, 0)] [(1, 1, 0), (8, 3, 0)] _ (HR.out.below (by (repeat (first | exact Below.refl _ _ | refine Below.drew ?_ | (refine below_gw' ?_ (by first | omega | (simp [go_sem]; done) | (simp [go_sem]; omega)) _) | (refine Below.alloc ?_ (by first | omega | (simp [go_sem]; done) | (simp [go_sem]; omega)) _) | (refine Below.setCell ?_ (by first | omega | (simp [go_sem]; done) | (simp [go_sem]; omega)) _))))) ?hrow (by decide) (by decide)).mono ?_
  case hrow =>
    refine ⟨_, _, rfl, by decide, fun _ => ⟨_, 0, rfl, by simp [go_sem], fun j hj => ?_⟩⟩
    have : j = 0 ∨ j = 1 ∨ j = 2 ∨ j = 3 ∨ j = 4 ∨ j = 5 := by simp [opc] at hj; omega
    rcases this with rfl | rfl | rfl | rfl | rfl | rfl <;> simp [go_sem, opc]
  rintro e w1 ⟨rfl, hb⟩
  obtain ⟨p4, rfl⟩ := gw_of_below hb
  clear hb
  rw [decide_eq_true (show ([(1, 1, 0), (8, 3, 0)] : List Op3) = [(1, 1, 0), (8, 3, 0)] from rfl)]
  go_wp2_with fail
  go_ret
  exact ⟨rfl, by (repeat (first | exact Below.refl _ _ | refine Below.drew ?_ | (refine below_gw' ?_ (by first | omega | (simp [go_sem]; done) | (simp [go_sem]; omega)) _) | (refine Below.alloc ?_ (by first | omega | (simp [go_sem]; done) | (simp [go_sem]; omega)) _) | (refine Below.setCell ?_ (by first | omega | (simp [go_sem]; done) | (simp [go_sem]; omega)) _)))⟩
end Go.Proofs.YtocgjpijjghiiaaDoor

