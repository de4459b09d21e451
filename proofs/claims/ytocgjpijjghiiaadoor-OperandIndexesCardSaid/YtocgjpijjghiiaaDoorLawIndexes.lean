/- The reference's Index, and the walk of the law OperandIndexes. -/
import Derived.Test.YtocgjpijjghiiaaDoorIndex
import Derived.Test.YtocgjpijjghiiaaDoorRef06e
import Derived.Test.YtocgjpijjghiiaaDoorAlive06
namespace Go.Proofs.YtocgjpijjghiiaaDoor
open Go.RowKit Go.Sort

theorem mem0 (k r : Int) : (k, r, (0 : Int)) ∈ idxOps 0 ↔ (k = 2 ∧ (r = 0 ∨ r = 1)) ∨ (k = 3 ∧ r = 5) ∨ (k = 4 ∧ r = 5) ∨ (k = 5 ∧ r = 5) := by
  simp [idxOps]; omega
theorem mem1 (k r : Int) : (k, r, (0 : Int)) ∈ idxOps 1 ↔ (k = 2 ∧ (r = 2 ∨ r = 3)) ∨ (k = 3 ∧ r = 6) ∨ (k = 4 ∧ r = 6) ∨ (k = 5 ∧ r = 6) := by
  simp [idxOps]; omega
theorem nm2 : ∀ r : Fin 9, (nm 2 r.val).toList.isEmpty = false → r.val < 4 := by decide +kernel

theorem indexS_range (k r n : Int) : indexS k r n = 0 ∨ indexS k r n = 5 ∨ indexS k r n = 6 := by
  unfold indexS
  split
  · exact .inl rfl
  · split
    · exact .inr (.inl rfl)
    · split
      · exact .inr (.inr rfl)
      · exact .inl rfl

theorem indexS_half (r n : Int) (hv : opValid 2 r n = true) : 0 ≤ r ∧ r < 4 ∧ indexS 2 r n = 5 + r / 2 := by
  obtain ⟨a, b, h1, rfl, h3, h4, h5, h6, h7, h8⟩ := opValid_parts hv
  obtain rfl : a = 2 := by omega
  have hb : b < 4 := nm2 ⟨b, h5⟩ h6
  refine ⟨by omega, by omega, ?_⟩
  unfold indexS
  rw [if_neg (by rw [hv]; decide)]
  have : b = 0 ∨ b = 1 ∨ b = 2 ∨ b = 3 := by omega
  rcases this with rfl | rfl | rfl | rfl <;> decide
theorem indexS_reg (k r n : Int) (hk : k = 3 ∨ k = 4 ∨ k = 5) (hv : opValid k r n = true) : indexS k r n = if r = 5 ∨ r = 6 then r else 0 := by
  unfold indexS
  rw [if_neg (by rw [hv]; decide)]
  by_cases h5 : r = 5
  · rw [if_pos ((mem0 k r).2 (by omega)), if_pos (.inl h5), h5]
  · rw [if_neg (fun h => by have := (mem0 k r).1 h; omega)]
    by_cases h6 : r = 6
    · rw [if_pos ((mem1 k r).2 (by omega)), if_pos (.inr h6), h6]
    · rw [if_neg (fun h => by have := (mem1 k r).1 h; omega), if_neg (by omega)]
theorem indexS_else (k r n : Int) (hk : k ≠ 2 ∧ k ≠ 3 ∧ k ≠ 4 ∧ k ≠ 5) (hv : opValid k r n = true) : indexS k r n = 0 := by
  unfold indexS
  rw [if_neg (by rw [hv]; decide), if_neg (fun h => by have := (mem0 k r).1 h; omega), if_neg (fun h => by have := (mem1 k r).1 h; omega)]

set_option maxHeartbeats 1000000 in
set_option maxRecDepth 100000 in
theorem rindex_any (k r n : Int) (w : World) :
    Calls Tryd.prog 16 #[.agg #[.int .i64 k, .int .i64 r, .int .i64 n]] w fun e w' => e = .returned (.int .i64 (indexS k r n)) ∧ Below w.heap.size w w' := by
  rcases hv : opValid k r n with _ | _
  · have hr : indexS k r n = 0 := by unfold indexS; rw [if_pos hv]
    rw [hr]
    have HV := Lib.hid hv; clear hv hr
    go_enter Tryd.func16, Tryd.ntmps16
    go_wp2_with fail
    refine (rvalid_any k r n _).mono ?_
    rintro e w1 ⟨rfl, hb⟩
    obtain ⟨p1, rfl⟩ := gw_of_below hb
    clear hb
    rw [HV.out]
    go_wp2_with fail
    go_ret
    exact ⟨rfl, by (repeat (first | exact Below.refl _ _ | refine Below.drew ?_ | (refine below_gw' ?_ (by first | omega | (simp [go_sem]; done) | (simp [go_sem]; omega)) _) | (refine Below.alloc ?_ (by first | omega | (simp [go_sem]; done) | (simp [go_sem]; omega)) _) | (refine Below.setCell ?_ (by first | omega | (simp [go_sem]; done) | (simp [go_sem]; omega)) _)))⟩
  · by_cases h2 : k = 2
    · subst h2
      obtain ⟨h0, h4, hr⟩ := indexS_half r n hv
      have HV := Lib.hid hv; clear hv
      have HR := Lib.hid hr; clear hr
      go_enter Tryd.func16, Tryd.ntmps16
      go_wp2_with fail
      refine (rvalid_any 2 r n _).mono ?_
      rintro e w1 ⟨rfl, hb⟩
      obtain ⟨p1, rfl⟩ := gw_of_below hb
      clear hb
      rw [HV.out]
      go_wp2_with fail
      go_ret
      exact ⟨by rw [HR.out]; rfl, by (repeat (first | exact Below.refl _ _ | refine Below.drew ?_ | (refine below_gw' ?_ (by first | omega | (simp [go_sem]; done) | (simp [go_sem]; omega)) _) | (refine Below.alloc ?_ (by first | omega | (simp [go_sem]; done) | (simp [go_sem]; omega)) _) | (refine Below.setCell ?_ (by first | omega | (simp [go_sem]; done) | (simp [go_sem]; omega)) _)))⟩
    · by_cases h3 : k = 3 ∨ k = 4 ∨ k = 5
      · have hr := indexS_reg k r n h3 hv
        have HV := Lib.hid hv; clear hv
        have HR := Lib.hid hr; clear hr h2
        by_cases h5 : r = 5
        · subst h5
          rcases h3 with rfl | rfl | rfl
          · go_enter Tryd.func16, Tryd.ntmps16
            go_wp2_with fail
            refine (rvalid_any 3 5 n _).mono ?_
            rintro e w1 ⟨rfl, hb⟩
            obtain ⟨p1, rfl⟩ := gw_of_below hb
            clear hb
            rw [HV.out]
            go_wp2_with fail
            go_ret
            exact ⟨by rw [HR.out]; rfl, by (repeat (first | exact Below.refl _ _ | refine Below.drew ?_ | (refine below_gw' ?_ (by first | omega | (simp [go_sem]; done) | (simp [go_sem]; omega)) _) | (refine Below.alloc ?_ (by first | omega | (simp [go_sem]; done) | (simp [go_sem]; omega)) _) | (refine Below.setCell ?_ (by first | omega | (simp [go_sem]; done) | (simp [go_sem]; omega)) _)))⟩
          · go_enter Tryd.func16, Tryd.ntmps16
            go_wp2_with fail
            refine (rvalid_any 4 5 n _).mono ?_
            rintro e w1 ⟨rfl, hb⟩
            obtain ⟨p1, rfl⟩ := gw_of_below hb
            clear hb
            rw [HV.out]
            go_wp2_with fail
            go_ret
            exact ⟨by rw [HR.out]; rfl, by (repeat (first | exact Below.refl _ _ | refine Below.drew ?_ | (refine below_gw' ?_ (by first | omega | (simp [go_sem]; done) | (simp [go_sem]; omega)) _) | (refine Below.alloc ?_ (by first | omega | (simp [go_sem]; done) | (simp [go_sem]; omega)) _) | (refine Below.setCell ?_ (by first | omega | (simp [go_sem]; done) | (simp [go_sem]; omega)) _)))⟩
          · go_enter Tryd.func16, Tryd.ntmps16
            go_wp2_with fail
            refine (rvalid_any 5 5 n _).mono ?_
            rintro e w1 ⟨rfl, hb⟩
            obtain ⟨p1, rfl⟩ := gw_of_below hb
            clear hb
            rw [HV.out]
            go_wp2_with fail
            go_ret
            exact ⟨by rw [HR.out]; rfl, by (repeat (first | exact Below.refl _ _ | refine Below.drew ?_ | (refine below_gw' ?_ (by first | omega | (simp [go_sem]; done) | (simp [go_sem]; omega)) _) | (refine Below.alloc ?_ (by first | omega | (simp [go_sem]; done) | (simp [go_sem]; omega)) _) | (refine Below.setCell ?_ (by first | omega | (simp [go_sem]; done) | (simp [go_sem]; omega)) _)))⟩
        · by_cases h6 : r = 6
          · subst h6
            clear h5
            rcases h3 with rfl | rfl | rfl
            · go_enter Tryd.func16, Tryd.ntmps16
              go_wp2_with fail
              refine (rvalid_any 3 6 n _).mono ?_
              rintro e w1 ⟨rfl, hb⟩
              obtain ⟨p1, rfl⟩ := gw_of_below hb
              clear hb
              rw [HV.out]
              go_wp2_with fail
              go_ret
              exact ⟨by rw [HR.out]; rfl, by (repeat (first | exact Below.refl _ _ | refine Below.drew ?_ | (refine below_gw' ?_ (by first | omega | (simp [go_sem]; done) | (simp [go_sem]; omega)) _) | (refine Below.alloc ?_ (by first | omega | (simp [go_sem]; done) | (simp [go_sem]; omega)) _) | (refine Below.setCell ?_ (by first | omega | (simp [go_sem]; done) | (simp [go_sem]; omega)) _)))⟩
            · go_enter Tryd.func16, Tryd.ntmps16
              go_wp2_with fail
              refine (rvalid_any 4 6 n _).mono ?_
              rintro e w1 ⟨rfl, hb⟩
              obtain ⟨p1, rfl⟩ := gw_of_below hb
              clear hb
              rw [HV.out]
              go_wp2_with fail
              go_ret
              exact ⟨by rw [HR.out]; rfl, by (repeat (first | exact Below.refl _ _ | refine Below.drew ?_ | (refine below_gw' ?_ (by first | omega | (simp [go_sem]; done) | (simp [go_sem]; omega)) _) | (refine Below.alloc ?_ (by first | omega | (simp [go_sem]; done) | (simp [go_sem]; omega)) _) | (refine Below.setCell ?_ (by first | omega | (simp [go_sem]; done) | (simp [go_sem]; omega)) _)))⟩
            · go_enter Tryd.func16, Tryd.ntmps16
              go_wp2_with fail
              refine (rvalid_any 5 6 n _).mono ?_
              rintro e w1 ⟨rfl, hb⟩
              obtain ⟨p1, rfl⟩ := gw_of_below hb
              clear hb
              rw [HV.out]
              go_wp2_with fail
              go_ret
              exact ⟨by rw [HR.out]; rfl, by (repeat (first | exact Below.refl _ _ | refine Below.drew ?_ | (refine below_gw' ?_ (by first | omega | (simp [go_sem]; done) | (simp [go_sem]; omega)) _) | (refine Below.alloc ?_ (by first | omega | (simp [go_sem]; done) | (simp [go_sem]; omega)) _) | (refine Below.setCell ?_ (by first | omega | (simp [go_sem]; done) | (simp [go_sem]; omega)) _)))⟩
          · have hr : indexS k r n = 0 := by rw [HR.out, if_neg (by omega)]
            clear HR
            have HR := Lib.hid hr; clear hr
            have e5 : (r == 5) = false := by simp; omega
            have e6 : (r == 6) = false := by simp; omega
            clear h5 h6
            rcases h3 with rfl | rfl | rfl
            · go_enter Tryd.func16, Tryd.ntmps16
              go_wp2_with fail
              refine (rvalid_any 3 r n _).mono ?_
              rintro e w1 ⟨rfl, hb⟩
              obtain ⟨p1, rfl⟩ := gw_of_below hb
              clear hb
              rw [HV.out]
              go_wp2_with fail
              go_ret
              exact ⟨by rw [HR.out]; rfl, by (repeat (first | exact Below.refl _ _ | refine Below.drew ?_ | (refine below_gw' ?_ (by first | omega | (simp [go_sem]; done) | (simp [go_sem]; omega)) _) | (refine Below.alloc ?_ (by first | omega | (simp [go_sem]; done) | (simp [go_sem]; omega)) _) | (refine Below.setCell ?_ (by first | omega | (simp [go_sem]; done) | (simp [go_sem]; omega)) _)))⟩
            · go_enter Tryd.func16, Tryd.ntmps16
              go_wp2_with fail
              refine (rvalid_any 4 r n _).mono ?_
              rintro e w1 ⟨rfl, hb⟩
              obtain ⟨p1, rfl⟩ := gw_of_below hb
              clear hb
              rw [HV.out]
              go_wp2_with fail
              go_ret
              exact ⟨by rw [HR.out]; rfl, by (repeat (first | exact Below.refl _ _ | refine Below.drew ?_ | (refine below_gw' ?_ (by first | omega | (simp [go_sem]; done) | (simp [go_sem]; omega)) _) | (refine Below.alloc ?_ (by first | omega | (simp [go_sem]; done) | (simp [go_sem]; omega)) _) | (refine Below.setCell ?_ (by first | omega | (simp [go_sem]; done) | (simp [go_sem]; omega)) _)))⟩
            · go_enter Tryd.func16, Tryd.ntmps16
              go_wp2_with fail
              refine (rvalid_any 5 r n _).mono ?_
              rintro e w1 ⟨rfl, hb⟩
              obtain ⟨p1, rfl⟩ := gw_of_below hb
              clear hb
              rw [HV.out]
              go_wp2_with fail
              go_ret
              exact ⟨by rw [HR.out]; rfl, by (repeat (first | exact Below.refl _ _ | refine Below.drew ?_ | (refine below_gw' ?_ (by first | omega | (simp [go_sem]; done) | (simp [go_sem]; omega)) _) | (refine Below.alloc ?_ (by first | omega | (simp [go_sem]; done) | (simp [go_sem]; omega)) _) | (refine Below.setCell ?_ (by first | omega | (simp [go_sem]; done) | (simp [go_sem]; omega)) _)))⟩
      · have hr := indexS_else k r n (by omega) hv
        have HV := Lib.hid hv; clear hv
        have HR := Lib.hid hr; clear hr
        have e2 : (k == 2) = false := by simp; omega
        have e3 : (k == 3) = false := by simp; omega
        have e4 : (k == 4) = false := by simp; omega
        have e5 : (k == 5) = false := by simp; omega
        clear h2 h3
        go_enter Tryd.func16, Tryd.ntmps16
        go_wp2_with fail
        refine (rvalid_any k r n _).mono ?_
        rintro e w1 ⟨rfl, hb⟩
        obtain ⟨p1, rfl⟩ := gw_of_below hb
        clear hb
        rw [HV.out]
        go_wp2_with fail
        go_ret
        exact ⟨by rw [HR.out]; rfl, by (repeat (first | exact Below.refl _ _ | refine Below.drew ?_ | (refine below_gw' ?_ (by first | omega | (simp [go_sem]; done) | (simp [go_sem]; omega)) _) | (refine Below.alloc ?_ (by first | omega | (simp [go_sem]; done) | (simp [go_sem]; omega)) _) | (refine Below.setCell ?_ (by first | omega | (simp [go_sem]; done) | (simp [go_sem]; omega)) _)))⟩

set_option maxHeartbeats 1000000 in
set_option maxRecDepth 100000 in
theorem lawIndexes_walk (k r n : Int) (w : World) (hT : Tabs w) :
    Calls Tryd.prog 5 #[.agg #[.int .i64 k, .int .i64 r, .int .i64 n]] w fun e w' => e = .returned (.bool true) ∧ Below w.heap.size w w' := by
  have HT := Lib.hid hT; clear hT
  have hi1 := fun w => index_any k r n w
  have hi2 := fun w => rindex_any k r n w
  have hrg := indexS_range k r n
  generalize indexS k r n = v at hi1 hi2 hrg
  have HI1 := Lib.hid hi1; clear hi1
  have HI2 := Lib.hid hi2; clear hi2
  rcases hrg with rfl | rfl | rfl
  all_goals
    go_enter Tryd.func5, Tryd.ntmps5
    go_wp2_with fail
    refine (HI1.out _).mono ?_
    rintro e w1 ⟨rfl, hb⟩
    obtain ⟨p1, rfl⟩ := gw_of_below hb
    clear hb
    go_wp2_with fail
    refine (alive06 _ (HT.out.below (by (repeat (first | exact Below.refl _ _ | refine Below.drew ?_ | (refine below_gw' ?_ (by first | omega | (simp [go_sem]; done) | (simp [go_sem]; omega)) _) | (refine Below.alloc ?_ (by first | omega | (simp [go_sem]; done) | (simp [go_sem]; omega)) _) | (refine Below.setCell ?_ (by first | omega | (simp [go_sem]; done) | (simp [go_sem]; omega)) _)))))).mono ?_
    rintro e w1 ⟨rfl, hb⟩
    obtain ⟨p2, rfl⟩ := gw_of_below hb
    clear hb
    go_wp2_with fail
    refine (HI2.out _).mono ?_
    rintro e w1 ⟨rfl, hb⟩
    obtain ⟨p3, rfl⟩ := gw_of_below hb
    clear hb
    go_wp2_with fail
    go_ret
    exact ⟨rfl, by (repeat (first | exact Below.refl _ _ | refine Below.drew ?_ | (refine below_gw' ?_ (by first | omega | (simp [go_sem]; done) | (simp [go_sem]; omega)) _) | (refine Below.alloc ?_ (by first | omega | (simp [go_sem]; done) | (simp [go_sem]; omega)) _) | (refine Below.setCell ?_ (by first | omega | (simp [go_sem]; done) | (simp [go_sem]; omega)) _)))⟩
end Go.Proofs.YtocgjpijjghiiaaDoor

