/- The walk of the law OperandOnce. -/
import Derived.Test.YtocgjpijjghiiaaDoorOnceLaw2
import Derived.Test.YtocgjpijjghiiaaDoorOpIn
import Derived.Test.YtocgjpijjghiiaaDoorRef06e
namespace Go.Proofs.YtocgjpijjghiiaaDoor
open Go.RowKit Go.Sort

theorem text_ne {S T : ByteArray} (h : S ≠ T) : (S.toList == T.toList) = false := by
  rw [beq_eq_false_iff_ne]
  intro e
  apply h
  apply ba_ext
  rw [← ByteArray.toList_eq, ← ByteArray.toList_eq]; exact e

set_option maxHeartbeats 1000000 in
set_option maxRecDepth 100000 in
theorem onceNot1 (k r n k' r' n' : Int) (w : World) (hT : Tabs w) (hv : opValid k r n = false) :
    Calls Tryd.prog 4 #[.agg #[.int .i64 k, .int .i64 r, .int .i64 n], .agg #[.int .i64 k', .int .i64 r', .int .i64 n']] w fun e w' => e = .returned (.bool true) ∧ Below w.heap.size w w' := by
  have HT := Lib.hid hT; clear hT
  have HV := Lib.hid hv; clear hv
  go_enter Tryd.func4, Tryd.ntmps4
  go_wp2_with fail
  refine (rvalid_any k r n _).mono ?_
  rintro e w1 ⟨rfl, hb⟩
  obtain ⟨p1, rfl⟩ := gw_of_below hb
  clear hb
  rw [HV.out]
  go_wp2_with fail
  refine (alive06 _ (HT.out.below (by (repeat (first | exact Below.refl _ _ | refine Below.drew ?_ | (refine below_gw' ?_ (by first | omega | (simp [go_sem]; done) | (simp [go_sem]; omega)) _) | (refine Below.alloc ?_ (by first | omega | (simp [go_sem]; done) | (simp [go_sem]; omega)) _) | (refine Below.setCell ?_ (by first | omega | (simp [go_sem]; done) | (simp [go_sem]; omega)) _)))))).mono ?_
  rintro e w1 ⟨rfl, hb⟩
  obtain ⟨p2, rfl⟩ := gw_of_below hb
  clear hb
  go_wp2_with fail
  go_ret
  exact ⟨rfl, by (repeat (first | exact Below.refl _ _ | refine Below.drew ?_ | (refine below_gw' ?_ (by first | omega | (simp [go_sem]; done) | (simp [go_sem]; omega)) _) | (refine Below.alloc ?_ (by first | omega | (simp [go_sem]; done) | (simp [go_sem]; omega)) _) | (refine Below.setCell ?_ (by first | omega | (simp [go_sem]; done) | (simp [go_sem]; omega)) _)))⟩

set_option maxHeartbeats 1000000 in
set_option maxRecDepth 100000 in
theorem onceNot2 (k r n k' r' n' : Int) (w : World) (hT : Tabs w) (hv : opValid k r n = true) (hv' : opValid k' r' n' = false) :
    Calls Tryd.prog 4 #[.agg #[.int .i64 k, .int .i64 r, .int .i64 n], .agg #[.int .i64 k', .int .i64 r', .int .i64 n']] w fun e w' => e = .returned (.bool true) ∧ Below w.heap.size w w' := by
  have HT := Lib.hid hT; clear hT
  have HV := Lib.hid hv; clear hv
  have HV' := Lib.hid hv'; clear hv'
  go_enter Tryd.func4, Tryd.ntmps4
  go_wp2_with fail
  refine (rvalid_any k r n _).mono ?_
  rintro e w1 ⟨rfl, hb⟩
  obtain ⟨p1, rfl⟩ := gw_of_below hb
  clear hb
  rw [HV.out]
  go_wp2_with fail
  refine (rvalid_any k' r' n' _).mono ?_
  rintro e w1 ⟨rfl, hb⟩
  obtain ⟨p2, rfl⟩ := gw_of_below hb
  clear hb
  rw [HV'.out]
  go_wp2_with fail
  refine (alive06 _ (HT.out.below (by (repeat (first | exact Below.refl _ _ | refine Below.drew ?_ | (refine below_gw' ?_ (by first | omega | (simp [go_sem]; done) | (simp [go_sem]; omega)) _) | (refine Below.alloc ?_ (by first | omega | (simp [go_sem]; done) | (simp [go_sem]; omega)) _) | (refine Below.setCell ?_ (by first | omega | (simp [go_sem]; done) | (simp [go_sem]; omega)) _)))))).mono ?_
  rintro e w1 ⟨rfl, hb⟩
  obtain ⟨p3, rfl⟩ := gw_of_below hb
  clear hb
  go_wp2_with fail
  go_ret
  exact ⟨rfl, by (repeat (first | exact Below.refl _ _ | refine Below.drew ?_ | (refine below_gw' ?_ (by first | omega | (simp [go_sem]; done) | (simp [go_sem]; omega)) _) | (refine Below.alloc ?_ (by first | omega | (simp [go_sem]; done) | (simp [go_sem]; omega)) _) | (refine Below.setCell ?_ (by first | omega | (simp [go_sem]; done) | (simp [go_sem]; omega)) _)))⟩

set_option maxHeartbeats 2000000 in
set_option maxRecDepth 100000 in
theorem onceOther1 (k r n k' r' n' : Int) (S : ByteArray) (b1 b2 b3 b8 b9 : Bool) (w : World) (hT : Tabs w) (hv : opValid k r n = true) (hv' : opValid k' r' n' = true) (hS : opText k r n = S)
    (e1 : (k == 1) = b1) (e2 : (k == 2) = b2) (e3 : (k == 3) = b3) (e8 : (k == 8) = b8) (e9 : (k == 9) = b9)
    (hmem : decide ((k, r, n) ∈ namedO S) = (b1 || b2 || b3 || b8 || b9)) (h1 : ¬ (1 : Int) < ((namedO S).length : Int)) (hx : (k != k') = true) :
    Calls Tryd.prog 4 #[.agg #[.int .i64 k, .int .i64 r, .int .i64 n], .agg #[.int .i64 k', .int .i64 r', .int .i64 n']] w fun e w' => e = .returned (.bool true) ∧ Below w.heap.size w w' := by
  have HT := Lib.hid hT; clear hT
  have HV := Lib.hid hv; clear hv
  have HV' := Lib.hid hv'; clear hv'
  have HM := Lib.hid hmem; clear hmem
  have hsz := opText_len k r n
  have htx := fun w hT => text_any k r n w hT
  rw [hS] at hsz
  simp only [hS] at htx
  have HTX := Lib.hid htx; clear htx
  have HS := Lib.hid hS; clear hS
  have hln := namedO_len S
  go_enter Tryd.func4, Tryd.ntmps4
  go_wp2_with fail
  refine (rvalid_any k r n _).mono ?_
  rintro e w1 ⟨rfl, hb⟩
  obtain ⟨p1, rfl⟩ := gw_of_below hb
  clear hb
  rw [HV.out]
  go_wp2_with fail
  refine (rvalid_any k' r' n' _).mono ?_
  rintro e w1 ⟨rfl, hb⟩
  obtain ⟨p2, rfl⟩ := gw_of_below hb
  clear hb
  rw [HV'.out]
  go_wp2_with fail
  refine (HTX.out _ (HT.out.below (by (repeat (first | exact Below.refl _ _ | refine Below.drew ?_ | (refine below_gw' ?_ (by first | omega | (simp [go_sem]; done) | (simp [go_sem]; omega)) _) | (refine Below.alloc ?_ (by first | omega | (simp [go_sem]; done) | (simp [go_sem]; omega)) _) | (refine Below.setCell ?_ (by first | omega | (simp [go_sem]; done) | (simp [go_sem]; omega)) _)))))).mono ?_
  rintro e w1 ⟨rfl, hb⟩
  obtain ⟨p3, rfl⟩ := gw_of_below hb
  clear hb
  go_wp2_with fail
  refine (namedO_any S _ (by unfold maxLen; omega)).mono ?_
  rintro e w1 ⟨v, rfl, hr, hb⟩
  obtain ⟨p4, rfl⟩ := gw_of_below hb
  clear hb
  have HRow := Lib.hid hr
  obtain ⟨a4, c4, rfl, hc4, hr⟩ := hr
  clear hr
  go_wp2_with fail
  all_goals
    refine (containsOp_any _ _ k r n _ (HRow.out.below (by (repeat (first | exact Below.refl _ _ | refine Below.drew ?_ | (refine below_gw' ?_ (by first | omega | (simp [go_sem]; done) | (simp [go_sem]; omega)) _) | (refine Below.alloc ?_ (by first | omega | (simp [go_sem]; done) | (simp [go_sem]; omega)) _) | (refine Below.setCell ?_ (by first | omega | (simp [go_sem]; done) | (simp [go_sem]; omega)) _))))) (by omega)).mono ?_
    rintro e w1 ⟨rfl, hb⟩
    obtain ⟨p5, rfl⟩ := gw_of_below hb
    clear hb
    rw [HM.out]
    go_wp2_with fail
    refine wp_region_gw (by kernel_rfl) (by kernel_rfl) ?_
    repeat (go_big_quiet_step (first | exact gw_quiet (alive06 _ (HT.out.below (by (repeat (first | exact Below.refl _ _ | refine Below.drew ?_ | (refine below_gw' ?_ (by first | omega | (simp [go_sem]; done) | (simp [go_sem]; omega)) _) | (refine Below.alloc ?_ (by first | omega | (simp [go_sem]; done) | (simp [go_sem]; omega)) _) | (refine Below.setCell ?_ (by first | omega | (simp [go_sem]; done) | (simp [go_sem]; omega)) _)))))) | exact gw_quiet (text_any k' r' n' _ (HT.out.below (by (repeat (first | exact Below.refl _ _ | refine Below.drew ?_ | (refine below_gw' ?_ (by first | omega | (simp [go_sem]; done) | (simp [go_sem]; omega)) _) | (refine Below.alloc ?_ (by first | omega | (simp [go_sem]; done) | (simp [go_sem]; omega)) _) | (refine Below.setCell ?_ (by first | omega | (simp [go_sem]; done) | (simp [go_sem]; omega)) _))))))))
    refine wpQuiet_nil ?_
    rintro _ ⟨p6, rfl⟩
    go_wp2_with fail
    go_ret
    exact ⟨rfl, by (repeat (first | exact Below.refl _ _ | refine Below.drew ?_ | (refine below_gw' ?_ (by first | omega | (simp [go_sem]; done) | (simp [go_sem]; omega)) _) | (refine Below.alloc ?_ (by first | omega | (simp [go_sem]; done) | (simp [go_sem]; omega)) _) | (refine Below.setCell ?_ (by first | omega | (simp [go_sem]; done) | (simp [go_sem]; omega)) _)))⟩

set_option maxHeartbeats 2000000 in
set_option maxRecDepth 100000 in
theorem onceOther2 (k r n k' r' n' : Int) (S : ByteArray) (b1 b2 b3 b8 b9 : Bool) (w : World) (hT : Tabs w) (hv : opValid k r n = true) (hv' : opValid k' r' n' = true) (hS : opText k r n = S)
    (e1 : (k == 1) = b1) (e2 : (k == 2) = b2) (e3 : (k == 3) = b3) (e8 : (k == 8) = b8) (e9 : (k == 9) = b9)
    (hmem : decide ((k, r, n) ∈ namedO S) = (b1 || b2 || b3 || b8 || b9)) (h1 : (1 : Int) < ((namedO S).length : Int)) (hC : (S.toList == [67]) = true) (hx : (k != k') = true) :
    Calls Tryd.prog 4 #[.agg #[.int .i64 k, .int .i64 r, .int .i64 n], .agg #[.int .i64 k', .int .i64 r', .int .i64 n']] w fun e w' => e = .returned (.bool true) ∧ Below w.heap.size w w' := by
  have HT := Lib.hid hT; clear hT
  have HV := Lib.hid hv; clear hv
  have HV' := Lib.hid hv'; clear hv'
  have HM := Lib.hid hmem; clear hmem
  have hsz := opText_len k r n
  have htx := fun w hT => text_any k r n w hT
  rw [hS] at hsz
  simp only [hS] at htx
  have HTX := Lib.hid htx; clear htx
  have HS := Lib.hid hS; clear hS
  have hln := namedO_len S
  go_enter Tryd.func4, Tryd.ntmps4
  go_wp2_with fail
  refine (rvalid_any k r n _).mono ?_
  rintro e w1 ⟨rfl, hb⟩
  obtain ⟨p1, rfl⟩ := gw_of_below hb
  clear hb
  rw [HV.out]
  go_wp2_with fail
  refine (rvalid_any k' r' n' _).mono ?_
  rintro e w1 ⟨rfl, hb⟩
  obtain ⟨p2, rfl⟩ := gw_of_below hb
  clear hb
  rw [HV'.out]
  go_wp2_with fail
  refine (HTX.out _ (HT.out.below (by (repeat (first | exact Below.refl _ _ | refine Below.drew ?_ | (refine below_gw' ?_ (by first | omega | (simp [go_sem]; done) | (simp [go_sem]; omega)) _) | (refine Below.alloc ?_ (by first | omega | (simp [go_sem]; done) | (simp [go_sem]; omega)) _) | (refine Below.setCell ?_ (by first | omega | (simp [go_sem]; done) | (simp [go_sem]; omega)) _)))))).mono ?_
  rintro e w1 ⟨rfl, hb⟩
  obtain ⟨p3, rfl⟩ := gw_of_below hb
  clear hb
  go_wp2_with fail
  refine (namedO_any S _ (by unfold maxLen; omega)).mono ?_
  rintro e w1 ⟨v, rfl, hr, hb⟩
  obtain ⟨p4, rfl⟩ := gw_of_below hb
  clear hb
  have HRow := Lib.hid hr
  obtain ⟨a4, c4, rfl, hc4, hr⟩ := hr
  clear hr
  go_wp2_with fail
  all_goals
    refine (containsOp_any _ _ k r n _ (HRow.out.below (by (repeat (first | exact Below.refl _ _ | refine Below.drew ?_ | (refine below_gw' ?_ (by first | omega | (simp [go_sem]; done) | (simp [go_sem]; omega)) _) | (refine Below.alloc ?_ (by first | omega | (simp [go_sem]; done) | (simp [go_sem]; omega)) _) | (refine Below.setCell ?_ (by first | omega | (simp [go_sem]; done) | (simp [go_sem]; omega)) _))))) (by omega)).mono ?_
    rintro e w1 ⟨rfl, hb⟩
    obtain ⟨p5, rfl⟩ := gw_of_below hb
    clear hb
    rw [HM.out]
    go_wp2_with fail
    refine wp_region_gw (by kernel_rfl) (by kernel_rfl) ?_
    repeat (go_big_quiet_step (first | exact gw_quiet (alive06 _ (HT.out.below (by (repeat (first | exact Below.refl _ _ | refine Below.drew ?_ | (refine below_gw' ?_ (by first | omega | (simp [go_sem]; done) | (simp [go_sem]; omega)) _) | (refine Below.alloc ?_ (by first | omega | (simp [go_sem]; done) | (simp [go_sem]; omega)) _) | (refine Below.setCell ?_ (by first | omega | (simp [go_sem]; done) | (simp [go_sem]; omega)) _)))))) | exact gw_quiet (text_any k' r' n' _ (HT.out.below (by (repeat (first | exact Below.refl _ _ | refine Below.drew ?_ | (refine below_gw' ?_ (by first | omega | (simp [go_sem]; done) | (simp [go_sem]; omega)) _) | (refine Below.alloc ?_ (by first | omega | (simp [go_sem]; done) | (simp [go_sem]; omega)) _) | (refine Below.setCell ?_ (by first | omega | (simp [go_sem]; done) | (simp [go_sem]; omega)) _))))))))
    refine wpQuiet_nil ?_
    rintro _ ⟨p6, rfl⟩
    go_wp2_with fail
    go_ret
    exact ⟨rfl, by (repeat (first | exact Below.refl _ _ | refine Below.drew ?_ | (refine below_gw' ?_ (by first | omega | (simp [go_sem]; done) | (simp [go_sem]; omega)) _) | (refine Below.alloc ?_ (by first | omega | (simp [go_sem]; done) | (simp [go_sem]; omega)) _) | (refine Below.setCell ?_ (by first | omega | (simp [go_sem]; done) | (simp [go_sem]; omega)) _)))⟩

set_option maxHeartbeats 2000000 in
set_option maxRecDepth 100000 in
theorem onceSame1 (k r n : Int) (S : ByteArray) (b1 b2 b3 b8 b9 : Bool) (w : World) (hT : Tabs w) (hv : opValid k r n = true) (hv' : opValid k r n = true) (hS : opText k r n = S)
    (e1 : (k == 1) = b1) (e2 : (k == 2) = b2) (e3 : (k == 3) = b3) (e8 : (k == 8) = b8) (e9 : (k == 9) = b9)
    (hmem : decide ((k, r, n) ∈ namedO S) = (b1 || b2 || b3 || b8 || b9)) (h1 : ¬ (1 : Int) < ((namedO S).length : Int)) (hcmp : (S.toList == (opText k r n).toList) = true)  :
    Calls Tryd.prog 4 #[.agg #[.int .i64 k, .int .i64 r, .int .i64 n], .agg #[.int .i64 k, .int .i64 r, .int .i64 n]] w fun e w' => e = .returned (.bool true) ∧ Below w.heap.size w w' := by
  have HT := Lib.hid hT; clear hT
  have HV := Lib.hid hv; clear hv
  have HV' := Lib.hid hv'; clear hv'
  have HM := Lib.hid hmem; clear hmem
  have hsz := opText_len k r n
  have htx := fun w hT => text_any k r n w hT
  rw [hS] at hsz
  simp only [hS] at htx
  have HTX := Lib.hid htx; clear htx
  have HS := Lib.hid hS; clear hS
  have hln := namedO_len S
  go_enter Tryd.func4, Tryd.ntmps4
  go_wp2_with fail
  refine (rvalid_any k r n _).mono ?_
  rintro e w1 ⟨rfl, hb⟩
  obtain ⟨p1, rfl⟩ := gw_of_below hb
  clear hb
  rw [HV.out]
  go_wp2_with fail
  refine (rvalid_any k r n _).mono ?_
  rintro e w1 ⟨rfl, hb⟩
  obtain ⟨p2, rfl⟩ := gw_of_below hb
  clear hb
  rw [HV'.out]
  go_wp2_with fail
  refine (HTX.out _ (HT.out.below (by (repeat (first | exact Below.refl _ _ | refine Below.drew ?_ | (refine below_gw' ?_ (by first | omega | (simp [go_sem]; done) | (simp [go_sem]; omega)) _) | (refine Below.alloc ?_ (by first | omega | (simp [go_sem]; done) | (simp [go_sem]; omega)) _) | (refine Below.setCell ?_ (by first | omega | (simp [go_sem]; done) | (simp [go_sem]; omega)) _)))))).mono ?_
  rintro e w1 ⟨rfl, hb⟩
  obtain ⟨p3, rfl⟩ := gw_of_below hb
  clear hb
  go_wp2_with fail
  refine (namedO_any S _ (by unfold maxLen; omega)).mono ?_
  rintro e w1 ⟨v, rfl, hr, hb⟩
  obtain ⟨p4, rfl⟩ := gw_of_below hb
  clear hb
  have HRow := Lib.hid hr
  obtain ⟨a4, c4, rfl, hc4, hr⟩ := hr
  clear hr
  go_wp2_with fail
  all_goals
    refine (containsOp_any _ _ k r n _ (HRow.out.below (by (repeat (first | exact Below.refl _ _ | refine Below.drew ?_ | (refine below_gw' ?_ (by first | omega | (simp [go_sem]; done) | (simp [go_sem]; omega)) _) | (refine Below.alloc ?_ (by first | omega | (simp [go_sem]; done) | (simp [go_sem]; omega)) _) | (refine Below.setCell ?_ (by first | omega | (simp [go_sem]; done) | (simp [go_sem]; omega)) _))))) (by omega)).mono ?_
    rintro e w1 ⟨rfl, hb⟩
    obtain ⟨p5, rfl⟩ := gw_of_below hb
    clear hb
    rw [HM.out]
    go_wp2_with fail
    refine wp_region_gw (by kernel_rfl) (by kernel_rfl) ?_
    repeat (go_big_quiet_step (first | exact gw_quiet (alive06 _ (HT.out.below (by (repeat (first | exact Below.refl _ _ | refine Below.drew ?_ | (refine below_gw' ?_ (by first | omega | (simp [go_sem]; done) | (simp [go_sem]; omega)) _) | (refine Below.alloc ?_ (by first | omega | (simp [go_sem]; done) | (simp [go_sem]; omega)) _) | (refine Below.setCell ?_ (by first | omega | (simp [go_sem]; done) | (simp [go_sem]; omega)) _)))))) | exact gw_quiet (text_any k r n _ (HT.out.below (by (repeat (first | exact Below.refl _ _ | refine Below.drew ?_ | (refine below_gw' ?_ (by first | omega | (simp [go_sem]; done) | (simp [go_sem]; omega)) _) | (refine Below.alloc ?_ (by first | omega | (simp [go_sem]; done) | (simp [go_sem]; omega)) _) | (refine Below.setCell ?_ (by first | omega | (simp [go_sem]; done) | (simp [go_sem]; omega)) _))))))))
    refine wpQuiet_nil ?_
    rintro _ ⟨p6, rfl⟩
    go_wp2_with fail
    go_ret
    exact ⟨rfl, by (repeat (first | exact Below.refl _ _ | refine Below.drew ?_ | (refine below_gw' ?_ (by first | omega | (simp [go_sem]; done) | (simp [go_sem]; omega)) _) | (refine Below.alloc ?_ (by first | omega | (simp [go_sem]; done) | (simp [go_sem]; omega)) _) | (refine Below.setCell ?_ (by first | omega | (simp [go_sem]; done) | (simp [go_sem]; omega)) _)))⟩

set_option maxHeartbeats 2000000 in
set_option maxRecDepth 100000 in
theorem onceSame2 (k r n : Int) (S : ByteArray) (b1 b2 b3 b8 b9 : Bool) (w : World) (hT : Tabs w) (hv : opValid k r n = true) (hv' : opValid k r n = true) (hS : opText k r n = S)
    (e1 : (k == 1) = b1) (e2 : (k == 2) = b2) (e3 : (k == 3) = b3) (e8 : (k == 8) = b8) (e9 : (k == 9) = b9)
    (hmem : decide ((k, r, n) ∈ namedO S) = (b1 || b2 || b3 || b8 || b9)) (h1 : (1 : Int) < ((namedO S).length : Int)) (hC : (S.toList == [67]) = true) (hcmp : (S.toList == (opText k r n).toList) = true)  :
    Calls Tryd.prog 4 #[.agg #[.int .i64 k, .int .i64 r, .int .i64 n], .agg #[.int .i64 k, .int .i64 r, .int .i64 n]] w fun e w' => e = .returned (.bool true) ∧ Below w.heap.size w w' := by
  have HT := Lib.hid hT; clear hT
  have HV := Lib.hid hv; clear hv
  have HV' := Lib.hid hv'; clear hv'
  have HM := Lib.hid hmem; clear hmem
  have hsz := opText_len k r n
  have htx := fun w hT => text_any k r n w hT
  rw [hS] at hsz
  simp only [hS] at htx
  have HTX := Lib.hid htx; clear htx
  have HS := Lib.hid hS; clear hS
  have hln := namedO_len S
  go_enter Tryd.func4, Tryd.ntmps4
  go_wp2_with fail
  refine (rvalid_any k r n _).mono ?_
  rintro e w1 ⟨rfl, hb⟩
  obtain ⟨p1, rfl⟩ := gw_of_below hb
  clear hb
  rw [HV.out]
  go_wp2_with fail
  refine (rvalid_any k r n _).mono ?_
  rintro e w1 ⟨rfl, hb⟩
  obtain ⟨p2, rfl⟩ := gw_of_below hb
  clear hb
  rw [HV'.out]
  go_wp2_with fail
  refine (HTX.out _ (HT.out.below (by (repeat (first | exact Below.refl _ _ | refine Below.drew ?_ | (refine below_gw' ?_ (by first | omega | (simp [go_sem]; done) | (simp [go_sem]; omega)) _) | (refine Below.alloc ?_ (by first | omega | (simp [go_sem]; done) | (simp [go_sem]; omega)) _) | (refine Below.setCell ?_ (by first | omega | (simp [go_sem]; done) | (simp [go_sem]; omega)) _)))))).mono ?_
  rintro e w1 ⟨rfl, hb⟩
  obtain ⟨p3, rfl⟩ := gw_of_below hb
  clear hb
  go_wp2_with fail
  refine (namedO_any S _ (by unfold maxLen; omega)).mono ?_
  rintro e w1 ⟨v, rfl, hr, hb⟩
  obtain ⟨p4, rfl⟩ := gw_of_below hb
  clear hb
  have HRow := Lib.hid hr
  obtain ⟨a4, c4, rfl, hc4, hr⟩ := hr
  clear hr
  go_wp2_with fail
  all_goals
    refine (containsOp_any _ _ k r n _ (HRow.out.below (by (repeat (first | exact Below.refl _ _ | refine Below.drew ?_ | (refine below_gw' ?_ (by first | omega | (simp [go_sem]; done) | (simp [go_sem]; omega)) _) | (refine Below.alloc ?_ (by first | omega | (simp [go_sem]; done) | (simp [go_sem]; omega)) _) | (refine Below.setCell ?_ (by first | omega | (simp [go_sem]; done) | (simp [go_sem]; omega)) _))))) (by omega)).mono ?_
    rintro e w1 ⟨rfl, hb⟩
    obtain ⟨p5, rfl⟩ := gw_of_below hb
    clear hb
    rw [HM.out]
    go_wp2_with fail
    refine wp_region_gw (by kernel_rfl) (by kernel_rfl) ?_
    repeat (go_big_quiet_step (first | exact gw_quiet (alive06 _ (HT.out.below (by (repeat (first | exact Below.refl _ _ | refine Below.drew ?_ | (refine below_gw' ?_ (by first | omega | (simp [go_sem]; done) | (simp [go_sem]; omega)) _) | (refine Below.alloc ?_ (by first | omega | (simp [go_sem]; done) | (simp [go_sem]; omega)) _) | (refine Below.setCell ?_ (by first | omega | (simp [go_sem]; done) | (simp [go_sem]; omega)) _)))))) | exact gw_quiet (text_any k r n _ (HT.out.below (by (repeat (first | exact Below.refl _ _ | refine Below.drew ?_ | (refine below_gw' ?_ (by first | omega | (simp [go_sem]; done) | (simp [go_sem]; omega)) _) | (refine Below.alloc ?_ (by first | omega | (simp [go_sem]; done) | (simp [go_sem]; omega)) _) | (refine Below.setCell ?_ (by first | omega | (simp [go_sem]; done) | (simp [go_sem]; omega)) _))))))))
    refine wpQuiet_nil ?_
    rintro _ ⟨p6, rfl⟩
    go_wp2_with fail
    go_ret
    exact ⟨rfl, by (repeat (first | exact Below.refl _ _ | refine Below.drew ?_ | (refine below_gw' ?_ (by first | omega | (simp [go_sem]; done) | (simp [go_sem]; omega)) _) | (refine Below.alloc ?_ (by first | omega | (simp [go_sem]; done) | (simp [go_sem]; omega)) _) | (refine Below.setCell ?_ (by first | omega | (simp [go_sem]; done) | (simp [go_sem]; omega)) _)))⟩

set_option maxHeartbeats 2000000 in
set_option maxRecDepth 100000 in
theorem onceReg1 (k r n r' n' : Int) (S : ByteArray) (b1 b2 b3 b8 b9 : Bool) (w : World) (hT : Tabs w) (hv : opValid k r n = true) (hv' : opValid k r' n' = true) (hS : opText k r n = S)
    (e1 : (k == 1) = b1) (e2 : (k == 2) = b2) (e3 : (k == 3) = b3) (e8 : (k == 8) = b8) (e9 : (k == 9) = b9)
    (hmem : decide ((k, r, n) ∈ namedO S) = (b1 || b2 || b3 || b8 || b9)) (h1 : ¬ (1 : Int) < ((namedO S).length : Int)) (hcmp : (S.toList == (opText k r' n').toList) = false) (hx : ¬ r = r') :
    Calls Tryd.prog 4 #[.agg #[.int .i64 k, .int .i64 r, .int .i64 n], .agg #[.int .i64 k, .int .i64 r', .int .i64 n']] w fun e w' => e = .returned (.bool true) ∧ Below w.heap.size w w' := by
  have HT := Lib.hid hT; clear hT
  have HV := Lib.hid hv; clear hv
  have HV' := Lib.hid hv'; clear hv'
  have HM := Lib.hid hmem; clear hmem
  have hsz := opText_len k r n
  have htx := fun w hT => text_any k r n w hT
  rw [hS] at hsz
  simp only [hS] at htx
  have HTX := Lib.hid htx; clear htx
  have HS := Lib.hid hS; clear hS
  have hln := namedO_len S
  go_enter Tryd.func4, Tryd.ntmps4
  go_wp2_with fail
  refine (rvalid_any k r n _).mono ?_
  rintro e w1 ⟨rfl, hb⟩
  obtain ⟨p1, rfl⟩ := gw_of_below hb
  clear hb
  rw [HV.out]
  go_wp2_with fail
  refine (rvalid_any k r' n' _).mono ?_
  rintro e w1 ⟨rfl, hb⟩
  obtain ⟨p2, rfl⟩ := gw_of_below hb
  clear hb
  rw [HV'.out]
  go_wp2_with fail
  refine (HTX.out _ (HT.out.below (by (repeat (first | exact Below.refl _ _ | refine Below.drew ?_ | (refine below_gw' ?_ (by first | omega | (simp [go_sem]; done) | (simp [go_sem]; omega)) _) | (refine Below.alloc ?_ (by first | omega | (simp [go_sem]; done) | (simp [go_sem]; omega)) _) | (refine Below.setCell ?_ (by first | omega | (simp [go_sem]; done) | (simp [go_sem]; omega)) _)))))).mono ?_
  rintro e w1 ⟨rfl, hb⟩
  obtain ⟨p3, rfl⟩ := gw_of_below hb
  clear hb
  go_wp2_with fail
  refine (namedO_any S _ (by unfold maxLen; omega)).mono ?_
  rintro e w1 ⟨v, rfl, hr, hb⟩
  obtain ⟨p4, rfl⟩ := gw_of_below hb
  clear hb
  have HRow := Lib.hid hr
  obtain ⟨a4, c4, rfl, hc4, hr⟩ := hr
  clear hr
  go_wp2_with fail
  all_goals
    refine (containsOp_any _ _ k r n _ (HRow.out.below (by (repeat (first | exact Below.refl _ _ | refine Below.drew ?_ | (refine below_gw' ?_ (by first | omega | (simp [go_sem]; done) | (simp [go_sem]; omega)) _) | (refine Below.alloc ?_ (by first | omega | (simp [go_sem]; done) | (simp [go_sem]; omega)) _) | (refine Below.setCell ?_ (by first | omega | (simp [go_sem]; done) | (simp [go_sem]; omega)) _))))) (by omega)).mono ?_
    rintro e w1 ⟨rfl, hb⟩
    obtain ⟨p5, rfl⟩ := gw_of_below hb
    clear hb
    rw [HM.out]
    go_wp2_with fail
    refine wp_region_gw (by kernel_rfl) (by kernel_rfl) ?_
    repeat (go_big_quiet_step (first | exact gw_quiet (alive06 _ (HT.out.below (by (repeat (first | exact Below.refl _ _ | refine Below.drew ?_ | (refine below_gw' ?_ (by first | omega | (simp [go_sem]; done) | (simp [go_sem]; omega)) _) | (refine Below.alloc ?_ (by first | omega | (simp [go_sem]; done) | (simp [go_sem]; omega)) _) | (refine Below.setCell ?_ (by first | omega | (simp [go_sem]; done) | (simp [go_sem]; omega)) _)))))) | exact gw_quiet (text_any k r' n' _ (HT.out.below (by (repeat (first | exact Below.refl _ _ | refine Below.drew ?_ | (refine below_gw' ?_ (by first | omega | (simp [go_sem]; done) | (simp [go_sem]; omega)) _) | (refine Below.alloc ?_ (by first | omega | (simp [go_sem]; done) | (simp [go_sem]; omega)) _) | (refine Below.setCell ?_ (by first | omega | (simp [go_sem]; done) | (simp [go_sem]; omega)) _))))))))
    refine wpQuiet_nil ?_
    rintro _ ⟨p6, rfl⟩
    go_wp2_with fail
    go_ret
    exact ⟨rfl, by (repeat (first | exact Below.refl _ _ | refine Below.drew ?_ | (refine below_gw' ?_ (by first | omega | (simp [go_sem]; done) | (simp [go_sem]; omega)) _) | (refine Below.alloc ?_ (by first | omega | (simp [go_sem]; done) | (simp [go_sem]; omega)) _) | (refine Below.setCell ?_ (by first | omega | (simp [go_sem]; done) | (simp [go_sem]; omega)) _)))⟩

set_option maxHeartbeats 2000000 in
set_option maxRecDepth 100000 in
theorem onceReg2 (k r n r' n' : Int) (S : ByteArray) (b1 b2 b3 b8 b9 : Bool) (w : World) (hT : Tabs w) (hv : opValid k r n = true) (hv' : opValid k r' n' = true) (hS : opText k r n = S)
    (e1 : (k == 1) = b1) (e2 : (k == 2) = b2) (e3 : (k == 3) = b3) (e8 : (k == 8) = b8) (e9 : (k == 9) = b9)
    (hmem : decide ((k, r, n) ∈ namedO S) = (b1 || b2 || b3 || b8 || b9)) (h1 : (1 : Int) < ((namedO S).length : Int)) (hC : (S.toList == [67]) = true) (hcmp : (S.toList == (opText k r' n').toList) = false) (hx : ¬ r = r') :
    Calls Tryd.prog 4 #[.agg #[.int .i64 k, .int .i64 r, .int .i64 n], .agg #[.int .i64 k, .int .i64 r', .int .i64 n']] w fun e w' => e = .returned (.bool true) ∧ Below w.heap.size w w' := by
  have HT := Lib.hid hT; clear hT
  have HV := Lib.hid hv; clear hv
  have HV' := Lib.hid hv'; clear hv'
  have HM := Lib.hid hmem; clear hmem
  have hsz := opText_len k r n
  have htx := fun w hT => text_any k r n w hT
  rw [hS] at hsz
  simp only [hS] at htx
  have HTX := Lib.hid htx; clear htx
  have HS := Lib.hid hS; clear hS
  have hln := namedO_len S
  go_enter Tryd.func4, Tryd.ntmps4
  go_wp2_with fail
  refine (rvalid_any k r n _).mono ?_
  rintro e w1 ⟨rfl, hb⟩
  obtain ⟨p1, rfl⟩ := gw_of_below hb
  clear hb
  rw [HV.out]
  go_wp2_with fail
  refine (rvalid_any k r' n' _).mono ?_
  rintro e w1 ⟨rfl, hb⟩
  obtain ⟨p2, rfl⟩ := gw_of_below hb
  clear hb
  rw [HV'.out]
  go_wp2_with fail
  refine (HTX.out _ (HT.out.below (by (repeat (first | exact Below.refl _ _ | refine Below.drew ?_ | (refine below_gw' ?_ (by first | omega | (simp [go_sem]; done) | (simp [go_sem]; omega)) _) | (refine Below.alloc ?_ (by first | omega | (simp [go_sem]; done) | (simp [go_sem]; omega)) _) | (refine Below.setCell ?_ (by first | omega | (simp [go_sem]; done) | (simp [go_sem]; omega)) _)))))).mono ?_
  rintro e w1 ⟨rfl, hb⟩
  obtain ⟨p3, rfl⟩ := gw_of_below hb
  clear hb
  go_wp2_with fail
  refine (namedO_any S _ (by unfold maxLen; omega)).mono ?_
  rintro e w1 ⟨v, rfl, hr, hb⟩
  obtain ⟨p4, rfl⟩ := gw_of_below hb
  clear hb
  have HRow := Lib.hid hr
  obtain ⟨a4, c4, rfl, hc4, hr⟩ := hr
  clear hr
  go_wp2_with fail
  all_goals
    refine (containsOp_any _ _ k r n _ (HRow.out.below (by (repeat (first | exact Below.refl _ _ | refine Below.drew ?_ | (refine below_gw' ?_ (by first | omega | (simp [go_sem]; done) | (simp [go_sem]; omega)) _) | (refine Below.alloc ?_ (by first | omega | (simp [go_sem]; done) | (simp [go_sem]; omega)) _) | (refine Below.setCell ?_ (by first | omega | (simp [go_sem]; done) | (simp [go_sem]; omega)) _))))) (by omega)).mono ?_
    rintro e w1 ⟨rfl, hb⟩
    obtain ⟨p5, rfl⟩ := gw_of_below hb
    clear hb
    rw [HM.out]
    go_wp2_with fail
    refine wp_region_gw (by kernel_rfl) (by kernel_rfl) ?_
    repeat (go_big_quiet_step (first | exact gw_quiet (alive06 _ (HT.out.below (by (repeat (first | exact Below.refl _ _ | refine Below.drew ?_ | (refine below_gw' ?_ (by first | omega | (simp [go_sem]; done) | (simp [go_sem]; omega)) _) | (refine Below.alloc ?_ (by first | omega | (simp [go_sem]; done) | (simp [go_sem]; omega)) _) | (refine Below.setCell ?_ (by first | omega | (simp [go_sem]; done) | (simp [go_sem]; omega)) _)))))) | exact gw_quiet (text_any k r' n' _ (HT.out.below (by (repeat (first | exact Below.refl _ _ | refine Below.drew ?_ | (refine below_gw' ?_ (by first | omega | (simp [go_sem]; done) | (simp [go_sem]; omega)) _) | (refine Below.alloc ?_ (by first | omega | (simp [go_sem]; done) | (simp [go_sem]; omega)) _) | (refine Below.setCell ?_ (by first | omega | (simp [go_sem]; done) | (simp [go_sem]; omega)) _))))))))
    refine wpQuiet_nil ?_
    rintro _ ⟨p6, rfl⟩
    go_wp2_with fail
    go_ret
    exact ⟨rfl, by (repeat (first | exact Below.refl _ _ | refine Below.drew ?_ | (refine below_gw' ?_ (by first | omega | (simp [go_sem]; done) | (simp [go_sem]; omega)) _) | (refine Below.alloc ?_ (by first | omega | (simp [go_sem]; done) | (simp [go_sem]; omega)) _) | (refine Below.setCell ?_ (by first | omega | (simp [go_sem]; done) | (simp [go_sem]; omega)) _)))⟩

set_option maxHeartbeats 2000000 in
set_option maxRecDepth 100000 in
theorem onceNum1 (k r n n' : Int) (S : ByteArray) (b1 b2 b3 b8 b9 : Bool) (w : World) (hT : Tabs w) (hv : opValid k r n = true) (hv' : opValid k r n' = true) (hS : opText k r n = S)
    (e1 : (k == 1) = b1) (e2 : (k == 2) = b2) (e3 : (k == 3) = b3) (e8 : (k == 8) = b8) (e9 : (k == 9) = b9)
    (hmem : decide ((k, r, n) ∈ namedO S) = (b1 || b2 || b3 || b8 || b9)) (h1 : ¬ (1 : Int) < ((namedO S).length : Int)) (hcmp : (S.toList == (opText k r n').toList) = false) (hx : ¬ n = n') :
    Calls Tryd.prog 4 #[.agg #[.int .i64 k, .int .i64 r, .int .i64 n], .agg #[.int .i64 k, .int .i64 r, .int .i64 n']] w fun e w' => e = .returned (.bool true) ∧ Below w.heap.size w w' := by
  have HT := Lib.hid hT; clear hT
  have HV := Lib.hid hv; clear hv
  have HV' := Lib.hid hv'; clear hv'
  have HM := Lib.hid hmem; clear hmem
  have hsz := opText_len k r n
  have htx := fun w hT => text_any k r n w hT
  rw [hS] at hsz
  simp only [hS] at htx
  have HTX := Lib.hid htx; clear htx
  have HS := Lib.hid hS; clear hS
  have hln := namedO_len S
  go_enter Tryd.func4, Tryd.ntmps4
  go_wp2_with fail
  refine (rvalid_any k r n _).mono ?_
  rintro e w1 ⟨rfl, hb⟩
  obtain ⟨p1, rfl⟩ := gw_of_below hb
  clear hb
  rw [HV.out]
  go_wp2_with fail
  refine (rvalid_any k r n' _).mono ?_
  rintro e w1 ⟨rfl, hb⟩
  obtain ⟨p2, rfl⟩ := gw_of_below hb
  clear hb
  rw [HV'.out]
  go_wp2_with fail
  refine (HTX.out _ (HT.out.below (by (repeat (first | exact Below.refl _ _ | refine Below.drew ?_ | (refine below_gw' ?_ (by first | omega | (simp [go_sem]; done) | (simp [go_sem]; omega)) _) | (refine Below.alloc ?_ (by first | omega | (simp [go_sem]; done) | (simp [go_sem]; omega)) _) | (refine Below.setCell ?_ (by first | omega | (simp [go_sem]; done) | (simp [go_sem]; omega)) _)))))).mono ?_
  rintro e w1 ⟨rfl, hb⟩
  obtain ⟨p3, rfl⟩ := gw_of_below hb
  clear hb
  go_wp2_with fail
  refine (namedO_any S _ (by unfold maxLen; omega)).mono ?_
  rintro e w1 ⟨v, rfl, hr, hb⟩
  obtain ⟨p4, rfl⟩ := gw_of_below hb
  clear hb
  have HRow := Lib.hid hr
  obtain ⟨a4, c4, rfl, hc4, hr⟩ := hr
  clear hr
  go_wp2_with fail
  all_goals
    refine (containsOp_any _ _ k r n _ (HRow.out.below (by (repeat (first | exact Below.refl _ _ | refine Below.drew ?_ | (refine below_gw' ?_ (by first | omega | (simp [go_sem]; done) | (simp [go_sem]; omega)) _) | (refine Below.alloc ?_ (by first | omega | (simp [go_sem]; done) | (simp [go_sem]; omega)) _) | (refine Below.setCell ?_ (by first | omega | (simp [go_sem]; done) | (simp [go_sem]; omega)) _))))) (by omega)).mono ?_
    rintro e w1 ⟨rfl, hb⟩
    obtain ⟨p5, rfl⟩ := gw_of_below hb
    clear hb
    rw [HM.out]
    go_wp2_with fail
    refine wp_region_gw (by kernel_rfl) (by kernel_rfl) ?_
    repeat (go_big_quiet_step (first | exact gw_quiet (alive06 _ (HT.out.below (by (repeat (first | exact Below.refl _ _ | refine Below.drew ?_ | (refine below_gw' ?_ (by first | omega | (simp [go_sem]; done) | (simp [go_sem]; omega)) _) | (refine Below.alloc ?_ (by first | omega | (simp [go_sem]; done) | (simp [go_sem]; omega)) _) | (refine Below.setCell ?_ (by first | omega | (simp [go_sem]; done) | (simp [go_sem]; omega)) _)))))) | exact gw_quiet (text_any k r n' _ (HT.out.below (by (repeat (first | exact Below.refl _ _ | refine Below.drew ?_ | (refine below_gw' ?_ (by first | omega | (simp [go_sem]; done) | (simp [go_sem]; omega)) _) | (refine Below.alloc ?_ (by first | omega | (simp [go_sem]; done) | (simp [go_sem]; omega)) _) | (refine Below.setCell ?_ (by first | omega | (simp [go_sem]; done) | (simp [go_sem]; omega)) _))))))))
    refine wpQuiet_nil ?_
    rintro _ ⟨p6, rfl⟩
    go_wp2_with fail
    go_ret
    exact ⟨rfl, by (repeat (first | exact Below.refl _ _ | refine Below.drew ?_ | (refine below_gw' ?_ (by first | omega | (simp [go_sem]; done) | (simp [go_sem]; omega)) _) | (refine Below.alloc ?_ (by first | omega | (simp [go_sem]; done) | (simp [go_sem]; omega)) _) | (refine Below.setCell ?_ (by first | omega | (simp [go_sem]; done) | (simp [go_sem]; omega)) _)))⟩

set_option maxHeartbeats 2000000 in
set_option maxRecDepth 100000 in
theorem onceNum2 (k r n n' : Int) (S : ByteArray) (b1 b2 b3 b8 b9 : Bool) (w : World) (hT : Tabs w) (hv : opValid k r n = true) (hv' : opValid k r n' = true) (hS : opText k r n = S)
    (e1 : (k == 1) = b1) (e2 : (k == 2) = b2) (e3 : (k == 3) = b3) (e8 : (k == 8) = b8) (e9 : (k == 9) = b9)
    (hmem : decide ((k, r, n) ∈ namedO S) = (b1 || b2 || b3 || b8 || b9)) (h1 : (1 : Int) < ((namedO S).length : Int)) (hC : (S.toList == [67]) = true) (hcmp : (S.toList == (opText k r n').toList) = false) (hx : ¬ n = n') :
    Calls Tryd.prog 4 #[.agg #[.int .i64 k, .int .i64 r, .int .i64 n], .agg #[.int .i64 k, .int .i64 r, .int .i64 n']] w fun e w' => e = .returned (.bool true) ∧ Below w.heap.size w w' := by
  have HT := Lib.hid hT; clear hT
  have HV := Lib.hid hv; clear hv
  have HV' := Lib.hid hv'; clear hv'
  have HM := Lib.hid hmem; clear hmem
  have hsz := opText_len k r n
  have htx := fun w hT => text_any k r n w hT
  rw [hS] at hsz
  simp only [hS] at htx
  have HTX := Lib.hid htx; clear htx
  have HS := Lib.hid hS; clear hS
  have hln := namedO_len S
  go_enter Tryd.func4, Tryd.ntmps4
  go_wp2_with fail
  refine (rvalid_any k r n _).mono ?_
  rintro e w1 ⟨rfl, hb⟩
  obtain ⟨p1, rfl⟩ := gw_of_below hb
  clear hb
  rw [HV.out]
  go_wp2_with fail
  refine (rvalid_any k r n' _).mono ?_
  rintro e w1 ⟨rfl, hb⟩
  obtain ⟨p2, rfl⟩ := gw_of_below hb
  clear hb
  rw [HV'.out]
  go_wp2_with fail
  refine (HTX.out _ (HT.out.below (by (repeat (first | exact Below.refl _ _ | refine Below.drew ?_ | (refine below_gw' ?_ (by first | omega | (simp [go_sem]; done) | (simp [go_sem]; omega)) _) | (refine Below.alloc ?_ (by first | omega | (simp [go_sem]; done) | (simp [go_sem]; omega)) _) | (refine Below.setCell ?_ (by first | omega | (simp [go_sem]; done) | (simp [go_sem]; omega)) _)))))).mono ?_
  rintro e w1 ⟨rfl, hb⟩
  obtain ⟨p3, rfl⟩ := gw_of_below hb
  clear hb
  go_wp2_with fail
  refine (namedO_any S _ (by unfold maxLen; omega)).mono ?_
  rintro e w1 ⟨v, rfl, hr, hb⟩
  obtain ⟨p4, rfl⟩ := gw_of_below hb
  clear hb
  have HRow := Lib.hid hr
  obtain ⟨a4, c4, rfl, hc4, hr⟩ := hr
  clear hr
  go_wp2_with fail
  all_goals
    refine (containsOp_any _ _ k r n _ (HRow.out.below (by (repeat (first | exact Below.refl _ _ | refine Below.drew ?_ | (refine below_gw' ?_ (by first | omega | (simp [go_sem]; done) | (simp [go_sem]; omega)) _) | (refine Below.alloc ?_ (by first | omega | (simp [go_sem]; done) | (simp [go_sem]; omega)) _) | (refine Below.setCell ?_ (by first | omega | (simp [go_sem]; done) | (simp [go_sem]; omega)) _))))) (by omega)).mono ?_
    rintro e w1 ⟨rfl, hb⟩
    obtain ⟨p5, rfl⟩ := gw_of_below hb
    clear hb
    rw [HM.out]
    go_wp2_with fail
    refine wp_region_gw (by kernel_rfl) (by kernel_rfl) ?_
    repeat (go_big_quiet_step (first | exact gw_quiet (alive06 _ (HT.out.below (by (repeat (first | exact Below.refl _ _ | refine Below.drew ?_ | (refine below_gw' ?_ (by first | omega | (simp [go_sem]; done) | (simp [go_sem]; omega)) _) | (refine Below.alloc ?_ (by first | omega | (simp [go_sem]; done) | (simp [go_sem]; omega)) _) | (refine Below.setCell ?_ (by first | omega | (simp [go_sem]; done) | (simp [go_sem]; omega)) _)))))) | exact gw_quiet (text_any k r n' _ (HT.out.below (by (repeat (first | exact Below.refl _ _ | refine Below.drew ?_ | (refine below_gw' ?_ (by first | omega | (simp [go_sem]; done) | (simp [go_sem]; omega)) _) | (refine Below.alloc ?_ (by first | omega | (simp [go_sem]; done) | (simp [go_sem]; omega)) _) | (refine Below.setCell ?_ (by first | omega | (simp [go_sem]; done) | (simp [go_sem]; omega)) _))))))))
    refine wpQuiet_nil ?_
    rintro _ ⟨p6, rfl⟩
    go_wp2_with fail
    go_ret
    exact ⟨rfl, by (repeat (first | exact Below.refl _ _ | refine Below.drew ?_ | (refine below_gw' ?_ (by first | omega | (simp [go_sem]; done) | (simp [go_sem]; omega)) _) | (refine Below.alloc ?_ (by first | omega | (simp [go_sem]; done) | (simp [go_sem]; omega)) _) | (refine Below.setCell ?_ (by first | omega | (simp [go_sem]; done) | (simp [go_sem]; omega)) _)))⟩

/-- The law's walk, for every input. -/
theorem lawOnce_walk (k r n k' r' n' : Int) (w : World) (hT : Tabs w) :
    Calls Tryd.prog 4 #[.agg #[.int .i64 k, .int .i64 r, .int .i64 n], .agg #[.int .i64 k', .int .i64 r', .int .i64 n']] w fun e w' => e = .returned (.bool true) ∧ Below w.heap.size w w' := by
  rcases hv : opValid k r n with _ | _
  · exact onceNot1 k r n k' r' n' w hT hv
  rcases hv' : opValid k' r' n' with _ | _
  · exact onceNot2 k r n k' r' n' w hT hv hv'
  obtain ⟨S, hS⟩ : ∃ S, opText k r n = S := ⟨_, rfl⟩
  have hm := once_named k r n hv
  rw [hS] at hm
  have h2 := once_two k r n hv
  rw [hS] at h2
  by_cases hl : 1 < (namedO S).length
  · have hC : (S.toList == [67]) = true := by rw [h2 hl]; decide +kernel
    have hl : (1 : Int) < ((namedO S).length : Int) := by omega
    by_cases hk : k = k'
    · subst hk
      have hi := once_inj k r n r' n' hv hv'
      rw [hS] at hi
      by_cases hr : r = r'
      · subst hr
        by_cases hn : n = n'
        · subst hn
          exact onceSame2 k r n S _ _ _ _ _ w hT hv hv' hS rfl rfl rfl rfl rfl hm hl hC (by rw [hS]; exact beq_self_eq_true _)
        · exact onceNum2 k r n n' S _ _ _ _ _ w hT hv hv' hS rfl rfl rfl rfl rfl hm hl hC (text_ne fun e => hn (hi e).2) hn
      · exact onceReg2 k r n r' n' S _ _ _ _ _ w hT hv hv' hS rfl rfl rfl rfl rfl hm hl hC (text_ne fun e => hr (hi e).1) hr
    · exact onceOther2 k r n k' r' n' S _ _ _ _ _ w hT hv hv' hS rfl rfl rfl rfl rfl hm hl hC (by simpa using hk)
  · have hl : ¬ (1 : Int) < ((namedO S).length : Int) := by omega
    by_cases hk : k = k'
    · subst hk
      have hi := once_inj k r n r' n' hv hv'
      rw [hS] at hi
      by_cases hr : r = r'
      · subst hr
        by_cases hn : n = n'
        · subst hn
          exact onceSame1 k r n S _ _ _ _ _ w hT hv hv' hS rfl rfl rfl rfl rfl hm hl (by rw [hS]; exact beq_self_eq_true _)
        · exact onceNum1 k r n n' S _ _ _ _ _ w hT hv hv' hS rfl rfl rfl rfl rfl hm hl (text_ne fun e => hn (hi e).2) hn
      · exact onceReg1 k r n r' n' S _ _ _ _ _ w hT hv hv' hS rfl rfl rfl rfl rfl hm hl (text_ne fun e => hr (hi e).1) hr
    · exact onceOther1 k r n k' r' n' S _ _ _ _ _ w hT hv hv' hS rfl rfl rfl rfl rfl hm hl (by simpa using hk)
end Go.Proofs.YtocgjpijjghiiaaDoor

