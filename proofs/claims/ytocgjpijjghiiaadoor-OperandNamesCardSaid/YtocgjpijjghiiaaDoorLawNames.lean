/- The walk of the law OperandNames. -/
import Derived.Test.YtocgjpijjghiiaaDoorRNamed
import Derived.Test.YtocgjpijjghiiaaDoorNames
namespace Go.Proofs.YtocgjpijjghiiaaDoor
open Go.RowKit Go.Sort

theorem equalStr_any (v1 v2 : Value) (w : World) (h1 : Row w v1 28 (strc nNames)) (h2 : Row w v2 28 (strc nNames)) :
    Calls Tryd.prog 22 #[v1, v2] w fun e w' => e = .returned (.bool true) ∧ Below w.heap.size w w' := by
  have hl := nNames_len
  have hne : strc nNames ≠ [] := by intro e; have := strc_len nNames; rw [e, hl] at this; cases this
  obtain ⟨a1, c1, rfl, hc1, h1⟩ := h1
  obtain ⟨a2, c2, rfl, hc2, h2⟩ := h2
  obtain ⟨g1, o1, rfl, hg1, h1⟩ := h1 hne
  obtain ⟨g2, o2, rfl, hg2, h2⟩ := h2 hne
  have hcell : ∀ j, j < nNames.length → (strc nNames)[j]? = some (.string (nNames.getD j ByteArray.empty)) := fun j hj => by
    simp [strc, List.getD, List.getElem?_eq_getElem hj]
  refine (Tryd.slices_Equal_string g1 o1 28 c1 g2 o2 28 c2 nNames nNames w (by omega) (by omega) (by decide) (by decide) (fun j hj => (h1 j (by rw [strc_len]; exact hj)).trans (hcell j hj)) (fun j hj => (h2 j (by rw [strc_len]; exact hj)).trans (hcell j hj))).mono ?_
  rintro e w' ⟨he, q, hw⟩
  refine ⟨by rw [he, decide_eq_true rfl], ?_⟩
  rw [hw]
  exact below_drewN (Below.refl _ _) _

theorem containsStr_any (v1 : Value) (s : ByteArray) (w : World) (h1 : Row w v1 28 (strc nNames)) :
    Calls Tryd.prog 25 #[v1, .string (upper s)] w fun e w' => e = .returned (.bool (decide (0 < (namedL s).length))) ∧ Below w.heap.size w w' := by
  have hl := nNames_len
  have hne : strc nNames ≠ [] := by intro e; have := strc_len nNames; rw [e, hl] at this; cases this
  obtain ⟨a1, c1, rfl, hc1, h1⟩ := h1
  obtain ⟨g1, o1, rfl, hg1, h1⟩ := h1 hne
  have hcell : ∀ j, j < nNames.length → (strc nNames)[j]? = some (.string (nNames.getD j ByteArray.empty)) := fun j hj => by
    simp [strc, List.getD, List.getElem?_eq_getElem hj]
  refine (Tryd.slices_Contains_string g1 o1 28 c1 nNames (upper s) w (by omega) (by decide) (fun j hj => (h1 j (by rw [strc_len]; exact hj)).trans (hcell j hj))).mono ?_
  rintro e w' ⟨he, hw⟩
  refine ⟨by rw [he, List.take_of_length_le (by omega), names_named], ?_⟩
  rw [hw]
  exact Below.refl _ _

set_option maxHeartbeats 1000000 in
set_option maxRecDepth 100000 in
theorem lawNames_walk (s : ByteArray) (w : World) (hs : s.size ≤ maxLen) (hT : Tabs w) :
    Calls Tryd.prog 7 #[.string s] w fun e w' => e = .returned (.bool true) ∧ Below w.heap.size w w' := by
  have HT := Lib.hid hT; clear hT
  by_cases h200 : 200 < s.size
  · have hi : (200 : Int) < (s.size : Int) := by omega
    go_enter Tryd.func7, Tryd.ntmps7
    go_wp2_with fail
    refine (alive06 _ HT.out).mono ?_
    rintro e w1 ⟨rfl, hb⟩
    obtain ⟨p1, rfl⟩ := gw_of_below hb
    clear hb
    go_wp2_with fail
    go_ret
    exact ⟨rfl, by (repeat (first | exact Below.refl _ _ | refine Below.drew ?_ | (refine below_gw' ?_ (by first | omega | (simp [go_sem]; done) | (simp [go_sem]; omega)) _) | (refine Below.alloc ?_ (by first | omega | (simp [go_sem]; done) | (simp [go_sem]; omega)) _) | (refine Below.setCell ?_ (by first | omega | (simp [go_sem]; done) | (simp [go_sem]; omega)) _)))⟩
  · have hi : ¬ (200 : Int) < (s.size : Int) := by omega
    have hlo : (namedO s).length = (namedL s).length := by unfold namedO; rw [List.length_map]
    have hln := namedO_len s
    have hnam := fun w => namedO_any s w hs
    have hrnam := fun w => rnamed_any s w (by omega)
    have hres := fun w => reserved_any s w hs
    have hcon := fun v w h => containsStr_any v s w h
    rw [← hlo] at hres hcon
    generalize namedO s = L at hln hnam hrnam hres hcon
    clear hlo
    have HNAM := Lib.hid hnam; clear hnam
    have HRNAM := Lib.hid hrnam; clear hrnam
    have HRES := Lib.hid hres; clear hres
    have HCON := Lib.hid hcon; clear hcon
    go_enter Tryd.func7, Tryd.ntmps7
    go_wp2_with fail
    refine (HNAM.out _).mono ?_
    rintro e w1 ⟨v, rfl, hr, hb⟩
    obtain ⟨p1, rfl⟩ := gw_of_below hb
    clear hb
    have HRow := Lib.hid hr
    obtain ⟨a1, c1, rfl, hc1, hr⟩ := hr
    clear hr
    go_wp2_with fail
    refine (alive06 _ (HT.out.below (by (repeat (first | exact Below.refl _ _ | refine Below.drew ?_ | (refine below_gw' ?_ (by first | omega | (simp [go_sem]; done) | (simp [go_sem]; omega)) _) | (refine Below.alloc ?_ (by first | omega | (simp [go_sem]; done) | (simp [go_sem]; omega)) _) | (refine Below.setCell ?_ (by first | omega | (simp [go_sem]; done) | (simp [go_sem]; omega)) _)))))).mono ?_
    rintro e w1 ⟨rfl, hb⟩
    obtain ⟨p2, rfl⟩ := gw_of_below hb
    clear hb
    go_wp2_with fail
    refine (HRNAM.out _).mono ?_
    rintro e w1 ⟨v2, rfl, hr2, hb⟩
    obtain ⟨p3, rfl⟩ := gw_of_below hb
    clear hb
    have HRow2 := Lib.hid hr2; clear hr2
    go_wp2_with fail
    refine (equalOp_any _ v2 L L _ (HRow.out.below (by (repeat (first | exact Below.refl _ _ | refine Below.drew ?_ | (refine below_gw' ?_ (by first | omega | (simp [go_sem]; done) | (simp [go_sem]; omega)) _) | (refine Below.alloc ?_ (by first | omega | (simp [go_sem]; done) | (simp [go_sem]; omega)) _) | (refine Below.setCell ?_ (by first | omega | (simp [go_sem]; done) | (simp [go_sem]; omega)) _))))) HRow2.out (by omega) (by omega)).mono ?_
    rintro e w1 ⟨rfl, hb⟩
    obtain ⟨p4, rfl⟩ := gw_of_below hb
    clear hb
    rw [decide_eq_true (show L = L from rfl)]
    go_wp2_with fail
    refine (HRES.out _).mono ?_
    rintro e w1 ⟨rfl, hb⟩
    obtain ⟨p5, rfl⟩ := gw_of_below hb
    clear hb
    go_wp2_with fail
    refine (names_any _ (HT.out.below (by (repeat (first | exact Below.refl _ _ | refine Below.drew ?_ | (refine below_gw' ?_ (by first | omega | (simp [go_sem]; done) | (simp [go_sem]; omega)) _) | (refine Below.alloc ?_ (by first | omega | (simp [go_sem]; done) | (simp [go_sem]; omega)) _) | (refine Below.setCell ?_ (by first | omega | (simp [go_sem]; done) | (simp [go_sem]; omega)) _)))))).mono ?_
    rintro e w1 ⟨v3, rfl, hr3, hb⟩
    obtain ⟨p6, rfl⟩ := gw_of_below hb
    clear hb
    have HRow3 := Lib.hid hr3; clear hr3
    go_wp2_with fail
    refine (rnames_any _).mono ?_
    rintro e w1 ⟨v4, rfl, hr4, hb⟩
    obtain ⟨p7, rfl⟩ := gw_of_below hb
    clear hb
    have HRow4 := Lib.hid hr4; clear hr4
    go_wp2_with fail
    refine (equalStr_any v3 v4 _ (HRow3.out.below (by (repeat (first | exact Below.refl _ _ | refine Below.drew ?_ | (refine below_gw' ?_ (by first | omega | (simp [go_sem]; done) | (simp [go_sem]; omega)) _) | (refine Below.alloc ?_ (by first | omega | (simp [go_sem]; done) | (simp [go_sem]; omega)) _) | (refine Below.setCell ?_ (by first | omega | (simp [go_sem]; done) | (simp [go_sem]; omega)) _))))) HRow4.out).mono ?_
    rintro e w1 ⟨rfl, hb⟩
    obtain ⟨p8, rfl⟩ := gw_of_below hb
    clear hb
    go_wp2_with fail
    refine (names_any _ (HT.out.below (by (repeat (first | exact Below.refl _ _ | refine Below.drew ?_ | (refine below_gw' ?_ (by first | omega | (simp [go_sem]; done) | (simp [go_sem]; omega)) _) | (refine Below.alloc ?_ (by first | omega | (simp [go_sem]; done) | (simp [go_sem]; omega)) _) | (refine Below.setCell ?_ (by first | omega | (simp [go_sem]; done) | (simp [go_sem]; omega)) _)))))).mono ?_
    rintro e w1 ⟨v5, rfl, hr5, hb⟩
    obtain ⟨p9, rfl⟩ := gw_of_below hb
    clear hb
    have HRow5 := Lib.hid hr5; clear hr5
    go_wp2_with fail
    refine (upper_any s _ hs).mono ?_
    rintro e w1 ⟨rfl, hb⟩
    obtain ⟨p10, rfl⟩ := gw_of_below hb
    clear hb
    go_wp2_with fail
    refine (HCON.out v5 _ (HRow5.out.below (by (repeat (first | exact Below.refl _ _ | refine Below.drew ?_ | (refine below_gw' ?_ (by first | omega | (simp [go_sem]; done) | (simp [go_sem]; omega)) _) | (refine Below.alloc ?_ (by first | omega | (simp [go_sem]; done) | (simp [go_sem]; omega)) _) | (refine Below.setCell ?_ (by first | omega | (simp [go_sem]; done) | (simp [go_sem]; omega)) _)))))).mono ?_
    rintro e w1 ⟨rfl, hb⟩
    obtain ⟨p11, rfl⟩ := gw_of_below hb
    clear hb
    go_wp2_with fail
    go_ret
    exact ⟨rfl, by (repeat (first | exact Below.refl _ _ | refine Below.drew ?_ | (refine below_gw' ?_ (by first | omega | (simp [go_sem]; done) | (simp [go_sem]; omega)) _) | (refine Below.alloc ?_ (by first | omega | (simp [go_sem]; done) | (simp [go_sem]; omega)) _) | (refine Below.setCell ?_ (by first | omega | (simp [go_sem]; done) | (simp [go_sem]; omega)) _)))⟩
end Go.Proofs.YtocgjpijjghiiaaDoor

