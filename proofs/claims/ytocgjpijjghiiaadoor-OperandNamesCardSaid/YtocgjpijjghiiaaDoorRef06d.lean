/- breadboardref06.Text gives what operand.Text gives. -/
import Derived.Test.YtocgjpijjghiiaaDoorRef06c
namespace Go.Proofs.YtocgjpijjghiiaaDoor
open Go.RowKit Go.Sort

set_option maxHeartbeats 4000000 in
set_option maxRecDepth 100000 in
theorem rtext_plain (k r n : Int) (w : World) (hk : k = 1 ∨ k = 2 ∨ k = 3 ∨ k = 4 ∨ k = 8 ∨ k = 9) (hv : opValid k r n = true) :
    Calls Tryd.prog 12 #[.agg #[.int .i64 k, .int .i64 r, .int .i64 n]] w fun e w' => e = .returned (.string (rname k r)) ∧ Below w.heap.size w w' := by
  have hn := fun w => rname_any k r w (by omega)
  have HV := Lib.hid hv; clear hv
  rcases hk with rfl | rfl | rfl | rfl | rfl | rfl
  all_goals
    go_enter Tryd.func12, Tryd.ntmps12
    go_wp2_with fail
    refine (rvalid_any _ r n _).mono ?_
    rintro e w1 ⟨rfl, hb⟩
    obtain ⟨p1, rfl⟩ := gw_of_below hb
    clear hb
    rw [HV.out]
    go_wp2_with fail
    refine (hn _).mono ?_
    rintro e w1 ⟨rfl, hb⟩
    obtain ⟨p2, rfl⟩ := gw_of_below hb
    clear hb hn
    go_wp2_with fail
    go_ret
    exact ⟨rfl, by (repeat (first | exact Below.refl _ _ | refine Below.drew ?_ | (refine below_gw' ?_ (by first | omega | (simp [go_sem]; done) | (simp [go_sem]; omega)) _) | (refine Below.alloc ?_ (by first | omega | (simp [go_sem]; done) | (simp [go_sem]; omega)) _) | (refine Below.setCell ?_ (by first | omega | (simp [go_sem]; done) | (simp [go_sem]; omega)) _)))⟩

set_option maxHeartbeats 4000000 in
set_option maxRecDepth 100000 in
theorem rtext_none (k r n : Int) (w : World) (hv : opValid k r n = false) :
    Calls Tryd.prog 12 #[.agg #[.int .i64 k, .int .i64 r, .int .i64 n]] w fun e w' => e = .returned (.string ⟨#[]⟩) ∧ Below w.heap.size w w' := by
  have HV := Lib.hid hv; clear hv
  go_enter Tryd.func12, Tryd.ntmps12
  go_wp2_with fail
  refine (rvalid_any _ r n _).mono ?_
  rintro e w1 ⟨rfl, hb⟩
  obtain ⟨p1, rfl⟩ := gw_of_below hb
  clear hb
  rw [HV.out]
  go_wp2_with fail
  go_ret
  exact ⟨rfl, by (repeat (first | exact Below.refl _ _ | refine Below.drew ?_ | (refine below_gw' ?_ (by first | omega | (simp [go_sem]; done) | (simp [go_sem]; omega)) _) | (refine Below.alloc ?_ (by first | omega | (simp [go_sem]; done) | (simp [go_sem]; omega)) _) | (refine Below.setCell ?_ (by first | omega | (simp [go_sem]; done) | (simp [go_sem]; omega)) _)))⟩

set_option maxHeartbeats 4000000 in
set_option maxRecDepth 100000 in
theorem rtext_idx (r n : Int) (w : World) (hv : opValid 5 r n = true) :
    Calls Tryd.prog 12 #[.agg #[.int .i64 5, .int .i64 r, .int .i64 n]] w fun e w' => e = .returned (.string ((⟨#[40]⟩ : ByteArray) ++ rname 5 r ++ signedS n ++ (⟨#[41]⟩ : ByteArray))) ∧ Below w.heap.size w w' := by
  obtain ⟨a, b, h1, h2, h3, h4, h5, h6, h7, h8⟩ := opValid_parts hv
  obtain rfl : a = 5 := by omega
  subst h2
  simp only [klo, khi] at h7 h8
  have hl1 := signedS_len n
  have hl2 : (rname 5 b).size ≤ 10 := rname_len ⟨5, by omega⟩ ⟨b, h5⟩
  clear h1
  have HV := Lib.hid hv; clear hv
  go_enter Tryd.func12, Tryd.ntmps12
  go_wp2_with fail
  refine (rvalid_any _ b n _).mono ?_
  rintro e w1 ⟨rfl, hb⟩
  obtain ⟨p1, rfl⟩ := gw_of_below hb
  clear hb
  rw [HV.out]
  go_wp2_with fail
  refine wp_region_gw (by kernel_rfl) (by kernel_rfl) ?_
  repeat (go_big_quiet_step (first | exact gw_quiet (rname_any 5 b _ (by omega)) | exact gw_quiet_same (rsigned_any n _ (by omega) (by omega))))
  refine wpQuiet_nil ?_
  rintro _ ⟨p2, rfl⟩
  go_wp2_with fail
  go_ret
  exact ⟨rfl, by (repeat (first | exact Below.refl _ _ | refine Below.drew ?_ | (refine below_gw' ?_ (by first | omega | (simp [go_sem]; done) | (simp [go_sem]; omega)) _) | (refine Below.alloc ?_ (by first | omega | (simp [go_sem]; done) | (simp [go_sem]; omega)) _) | (refine Below.setCell ?_ (by first | omega | (simp [go_sem]; done) | (simp [go_sem]; omega)) _)))⟩
end Go.Proofs.YtocgjpijjghiiaaDoor

