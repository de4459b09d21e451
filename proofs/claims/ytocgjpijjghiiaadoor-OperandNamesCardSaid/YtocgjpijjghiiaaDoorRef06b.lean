/- breadboardref06: Valid and Text. -/
import Derived.Test.YtocgjpijjghiiaaDoorRef06
namespace Go.Proofs.YtocgjpijjghiiaaDoor
open Go.RowKit Go.Sort

theorem strEmpty (s : ByteArray) (h : s.toList = []) : s.toList.isEmpty = true := by rw [h]; rfl
theorem strNonempty (s : ByteArray) (h : ¬ s.toList = []) : s.toList.isEmpty = false := by
  cases hs : s.toList with
  | nil => exact absurd hs h
  | cons a l => rfl

set_option maxHeartbeats 4000000 in
set_option maxRecDepth 100000 in
theorem rvalid_plain (k r n : Int) (w : World) (hk : k = 1 ∨ k = 2 ∨ k = 3 ∨ k = 4 ∨ k = 8 ∨ k = 9) :
    Calls Tryd.prog 10 #[.agg #[.int .i64 k, .int .i64 r, .int .i64 n]] w fun e w' => e = .returned (.bool (!(rname k r).toList.isEmpty && (n == 0))) ∧ Below w.heap.size w w' := by
  have hn := fun w => rname_any k r w (by omega)
  rcases hk with rfl | rfl | rfl | rfl | rfl | rfl
  all_goals
    go_enter Tryd.func10, Tryd.ntmps10
    go_wp2_with fail
    refine (hn _).mono ?_
    rintro e w1 ⟨rfl, hb⟩
    obtain ⟨p1, rfl⟩ := gw_of_below hb
    clear hb hn
    go_wp2_with fail
    all_goals go_ret
    all_goals refine ⟨?_, by (repeat (first | exact Below.refl _ _ | refine Below.drew ?_ | (refine below_gw' ?_ (by first | omega | (simp [go_sem]; done) | (simp [go_sem]; omega)) _) | (refine Below.alloc ?_ (by first | omega | (simp [go_sem]; done) | (simp [go_sem]; omega)) _) | (refine Below.setCell ?_ (by first | omega | (simp [go_sem]; done) | (simp [go_sem]; omega)) _)))⟩
    all_goals first | rfl | (rename_i h; simp [strEmpty _ h]; done) | (rename_i h; simp [strNonempty _ h])

set_option maxHeartbeats 4000000 in
set_option maxRecDepth 100000 in
theorem rvalid_idx (r n : Int) (w : World) :
    Calls Tryd.prog 10 #[.agg #[.int .i64 5, .int .i64 r, .int .i64 n]] w fun e w' => e = .returned (.bool (!(rname 5 r).toList.isEmpty && decide (-128 ≤ n) && decide (n ≤ 127))) ∧ Below w.heap.size w w' := by
  go_enter Tryd.func10, Tryd.ntmps10
  go_wp2_with fail
  refine (rname_any 5 r _ (by omega)).mono ?_
  rintro e w1 ⟨rfl, hb⟩
  obtain ⟨p1, rfl⟩ := gw_of_below hb
  clear hb
  by_cases h1 : -128 ≤ n
  · go_wp2_with fail
    all_goals go_ret
    all_goals refine ⟨?_, by (repeat (first | exact Below.refl _ _ | refine Below.drew ?_ | (refine below_gw' ?_ (by first | omega | (simp [go_sem]; done) | (simp [go_sem]; omega)) _) | (refine Below.alloc ?_ (by first | omega | (simp [go_sem]; done) | (simp [go_sem]; omega)) _) | (refine Below.setCell ?_ (by first | omega | (simp [go_sem]; done) | (simp [go_sem]; omega)) _)))⟩
    all_goals first | rfl | (rename_i h; simp [strEmpty _ h]; done) | (rename_i h; simp [strNonempty _ h, h1]) | simp [h1]
  · go_wp2_with fail
    all_goals go_ret
    all_goals refine ⟨?_, by (repeat (first | exact Below.refl _ _ | refine Below.drew ?_ | (refine below_gw' ?_ (by first | omega | (simp [go_sem]; done) | (simp [go_sem]; omega)) _) | (refine Below.alloc ?_ (by first | omega | (simp [go_sem]; done) | (simp [go_sem]; omega)) _) | (refine Below.setCell ?_ (by first | omega | (simp [go_sem]; done) | (simp [go_sem]; omega)) _)))⟩
    all_goals first | rfl | (rename_i h; simp [strEmpty _ h]; done) | (rename_i h; simp [strNonempty _ h]; omega) | (simp; omega)

set_option maxHeartbeats 4000000 in
set_option maxRecDepth 100000 in
theorem rvalid_num (k : Nat) (r n : Int) (w : World) (hk : k = 6 ∨ k = 7 ∨ k = 10) :
    Calls Tryd.prog 10 #[.agg #[.int .i64 k, .int .i64 r, .int .i64 n]] w fun e w' => e = .returned (.bool ((r == 0) && decide (klo k ≤ n) && decide (n ≤ khi k))) ∧ Below w.heap.size w w' := by
  rcases hk with rfl | rfl | rfl
  all_goals
    simp only [klo, khi]
    by_cases h0 : r = 0
    · subst h0
      go_enter Tryd.func10, Tryd.ntmps10
      go_wp2_with fail
      all_goals go_ret
      all_goals refine ⟨?_, by (repeat (first | exact Below.refl _ _ | refine Below.drew ?_ | (refine below_gw' ?_ (by first | omega | (simp [go_sem]; done) | (simp [go_sem]; omega)) _) | (refine Below.alloc ?_ (by first | omega | (simp [go_sem]; done) | (simp [go_sem]; omega)) _) | (refine Below.setCell ?_ (by first | omega | (simp [go_sem]; done) | (simp [go_sem]; omega)) _)))⟩
      all_goals first | rfl | (simp; omega)
    · have h0b : (r == 0) = false := by simpa using h0
      go_enter Tryd.func10, Tryd.ntmps10
      go_wp2_with fail
      all_goals go_ret
      all_goals refine ⟨?_, by (repeat (first | exact Below.refl _ _ | refine Below.drew ?_ | (refine below_gw' ?_ (by first | omega | (simp [go_sem]; done) | (simp [go_sem]; omega)) _) | (refine Below.alloc ?_ (by first | omega | (simp [go_sem]; done) | (simp [go_sem]; omega)) _) | (refine Below.setCell ?_ (by first | omega | (simp [go_sem]; done) | (simp [go_sem]; omega)) _)))⟩
      all_goals first | rfl | (simp [h0b])

set_option maxHeartbeats 4000000 in
set_option maxRecDepth 100000 in
theorem rvalid_none (k : Int) (r n : Int) (w : World) (hk : k < 1 ∨ 10 < k) :
    Calls Tryd.prog 10 #[.agg #[.int .i64 k, .int .i64 r, .int .i64 n]] w fun e w' => e = .returned (.bool false) ∧ Below w.heap.size w w' := by
  have e1 : (k == 1) = false := by simp; omega
  have e2 : (k == 2) = false := by simp; omega
  have e3 : (k == 3) = false := by simp; omega
  have e4 : (k == 4) = false := by simp; omega
  have e5 : (k == 5) = false := by simp; omega
  have e6 : (k == 6) = false := by simp; omega
  have e7 : (k == 7) = false := by simp; omega
  have e8 : (k == 8) = false := by simp; omega
  have e9 : (k == 9) = false := by simp; omega
  have e10 : (k == 10) = false := by simp; omega
  clear hk
  go_enter Tryd.func10, Tryd.ntmps10
  go_wp2_with fail
  all_goals go_ret
  all_goals exact ⟨rfl, by (repeat (first | exact Below.refl _ _ | refine Below.drew ?_ | (refine below_gw' ?_ (by first | omega | (simp [go_sem]; done) | (simp [go_sem]; omega)) _) | (refine Below.alloc ?_ (by first | omega | (simp [go_sem]; done) | (simp [go_sem]; omega)) _) | (refine Below.setCell ?_ (by first | omega | (simp [go_sem]; done) | (simp [go_sem]; omega)) _)))⟩
end Go.Proofs.YtocgjpijjghiiaaDoor

