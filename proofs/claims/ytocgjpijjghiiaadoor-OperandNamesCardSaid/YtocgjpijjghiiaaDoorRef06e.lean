/- breadboardref06.Text gives what operand.Text gives, for every operand. -/
import Derived.Test.YtocgjpijjghiiaaDoorRef06d
namespace Go.Proofs.YtocgjpijjghiiaaDoor
open Go.RowKit Go.Sort


set_option maxHeartbeats 400000 in
set_option maxRecDepth 100000 in
theorem rtext_6a (r n : Int) (w : World) (hn : n < 0) (h7 : -32768 ≤ n) (HV : Hid (opValid 6 r n = true)) :
    Calls Tryd.prog 12 #[.agg #[.int .i64 6, .int .i64 r, .int .i64 n]] w fun e w' => e = .returned (.string (signedS n)) ∧ Below w.heap.size w w' := by
  go_enter Tryd.func12, Tryd.ntmps12
  go_wp2_with fail
  refine (rvalid_any 6 r n _).mono ?_
  rintro e w1 ⟨rfl, hb⟩
  obtain ⟨p1, rfl⟩ := gw_of_below hb
  clear hb
  rw [HV.out]
  go_wp2_with fail
  refine (rsigned_any n _ (by omega) (by omega)).mono ?_
  rintro e w1 ⟨rfl, rfl⟩
  go_wp2_with fail
  go_ret
  exact ⟨rfl, by (repeat (first | exact Below.refl _ _ | refine Below.drew ?_ | (refine below_gw' ?_ (by first | omega | (simp [go_sem]; done) | (simp [go_sem]; omega)) _) | (refine Below.alloc ?_ (by first | omega | (simp [go_sem]; done) | (simp [go_sem]; omega)) _) | (refine Below.setCell ?_ (by first | omega | (simp [go_sem]; done) | (simp [go_sem]; omega)) _)))⟩

set_option maxHeartbeats 400000 in
set_option maxRecDepth 100000 in
theorem rtext_6b (r n : Int) (w : World) (hn : ¬ n < 0) (HV : Hid (opValid 6 r n = true)) :
    Calls Tryd.prog 12 #[.agg #[.int .i64 6, .int .i64 r, .int .i64 n]] w fun e w' => e = .returned (.string (numText n)) ∧ Below w.heap.size w w' := by
  go_enter Tryd.func12, Tryd.ntmps12
  go_wp2_with fail
  refine (rvalid_any 6 r n _).mono ?_
  rintro e w1 ⟨rfl, hb⟩
  obtain ⟨p1, rfl⟩ := gw_of_below hb
  clear hb
  rw [HV.out]
  go_wp2_with fail
  refine (ref01Text_any n _).mono ?_
  rintro e w1 ⟨rfl, rfl⟩
  go_wp2_with fail
  go_ret
  exact ⟨rfl, by (repeat (first | exact Below.refl _ _ | refine Below.drew ?_ | (refine below_gw' ?_ (by first | omega | (simp [go_sem]; done) | (simp [go_sem]; omega)) _) | (refine Below.alloc ?_ (by first | omega | (simp [go_sem]; done) | (simp [go_sem]; omega)) _) | (refine Below.setCell ?_ (by first | omega | (simp [go_sem]; done) | (simp [go_sem]; omega)) _)))⟩

set_option maxHeartbeats 400000 in
set_option maxRecDepth 100000 in
theorem rtext_7 (r n : Int) (w : World) (HV : Hid (opValid 7 r n = true)) :
    Calls Tryd.prog 12 #[.agg #[.int .i64 7, .int .i64 r, .int .i64 n]] w fun e w' => e = .returned (.string ((⟨#[40]⟩ : ByteArray) ++ numText n ++ (⟨#[41]⟩ : ByteArray))) ∧ Below w.heap.size w w' := by
  have hl := numText_len n
  go_enter Tryd.func12, Tryd.ntmps12
  go_wp2_with fail
  refine (rvalid_any 7 r n _).mono ?_
  rintro e w1 ⟨rfl, hb⟩
  obtain ⟨p1, rfl⟩ := gw_of_below hb
  clear hb
  rw [HV.out]
  go_wp2_with fail
  refine (ref01Text_any n _).mono ?_
  rintro e w1 ⟨rfl, rfl⟩
  go_wp2_with fail
  go_ret
  exact ⟨rfl, by (repeat (first | exact Below.refl _ _ | refine Below.drew ?_ | (refine below_gw' ?_ (by first | omega | (simp [go_sem]; done) | (simp [go_sem]; omega)) _) | (refine Below.alloc ?_ (by first | omega | (simp [go_sem]; done) | (simp [go_sem]; omega)) _) | (refine Below.setCell ?_ (by first | omega | (simp [go_sem]; done) | (simp [go_sem]; omega)) _)))⟩

set_option maxHeartbeats 400000 in
set_option maxRecDepth 100000 in
theorem rtext_10 (r n : Int) (w : World) (h7 : -128 ≤ n) (h8 : n ≤ 127) (HV : Hid (opValid 10 r n = true)) :
    Calls Tryd.prog 12 #[.agg #[.int .i64 10, .int .i64 r, .int .i64 n]] w fun e w' => e = .returned (.string ((⟨#[36]⟩ : ByteArray) ++ signedS (n + 2))) ∧ Below w.heap.size w w' := by
  have hl := signedS_len (n + 2)
  go_enter Tryd.func12, Tryd.ntmps12
  go_wp2_with fail
  refine (rvalid_any 10 r n _).mono ?_
  rintro e w1 ⟨rfl, hb⟩
  obtain ⟨p1, rfl⟩ := gw_of_below hb
  clear hb
  rw [HV.out]
  go_wp2_with fail
  refine (rsigned_any (n + 2) _ (by omega) (by omega)).mono ?_
  rintro e w1 ⟨rfl, rfl⟩
  go_wp2_with fail
  go_ret
  exact ⟨rfl, by (repeat (first | exact Below.refl _ _ | refine Below.drew ?_ | (refine below_gw' ?_ (by first | omega | (simp [go_sem]; done) | (simp [go_sem]; omega)) _) | (refine Below.alloc ?_ (by first | omega | (simp [go_sem]; done) | (simp [go_sem]; omega)) _) | (refine Below.setCell ?_ (by first | omega | (simp [go_sem]; done) | (simp [go_sem]; omega)) _)))⟩

theorem rtext_any (k r n : Int) (w : World) :
    Calls Tryd.prog 12 #[.agg #[.int .i64 k, .int .i64 r, .int .i64 n]] w fun e w' => e = .returned (.string (opText k r n)) ∧ Below w.heap.size w w' := by
  rcases hv : opValid k r n with _ | _
  · have : opText k r n = ⟨#[]⟩ := by unfold opText; rw [hv]; rfl
    rw [this]
    exact rtext_none k r n w hv
  · obtain ⟨a, b, h1, h2, h3, h4, h5, h6, h7, h8⟩ := opValid_parts hv
    subst h1
    by_cases h1 : a = 1 ∨ a = 2 ∨ a = 3 ∨ a = 4 ∨ a = 8 ∨ a = 9
    · rw [opText_plain a r n h1 hv]
      exact rtext_plain a r n w (by omega) hv
    · have ht : opText a r n = formS a (nm a r.toNat) n := by unfold opText; rw [hv, if_pos rfl, Int.toNat_natCast]
      have h9 : a = 5 ∨ a = 6 ∨ a = 7 ∨ a = 10 := by omega
      rcases h9 with rfl | rfl | rfl | rfl
      · rw [show opText ((5 : Nat) : Int) r n = opText 5 r n from rfl, opText_idx r n hv]
        exact rtext_idx r n w hv
      · rw [ht]
        show Calls _ _ _ _ fun e w' => e = .returned (.string (if n < 0 then signedS n else numText n)) ∧ _
        by_cases hn : n < 0
        · rw [if_pos hn]
          exact rtext_6a r n w hn h7 hv
        · rw [if_neg hn]
          exact rtext_6b r n w hn hv
      · rw [ht]
        exact rtext_7 r n w hv
      · rw [ht]
        exact rtext_10 r n w h7 h8 hv
end Go.Proofs.YtocgjpijjghiiaaDoor

