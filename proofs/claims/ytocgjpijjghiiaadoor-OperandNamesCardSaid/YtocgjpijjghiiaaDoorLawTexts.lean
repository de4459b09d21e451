/- The walk of the law OperandTexts. -/
import Derived.Test.YtocgjpijjghiiaaDoorAlive06
import Derived.Test.YtocgjpijjghiiaaDoorRef06e
namespace Go.Proofs.YtocgjpijjghiiaaDoor
open Go.RowKit Go.Sort

theorem isEmpty_of_size {s : ByteArray} (h : 0 < s.size) : s.toList.isEmpty = false := by
  have : s.toList ≠ [] := by
    intro e
    have h1 : s.toList = s.data.toList := ByteArray.toList_eq s
    rw [h1] at e
    have : s.data.toList.length = s.size := by simp
    rw [e] at this
    simp at this
    omega
  cases hs : s.toList with
  | nil => exact absurd hs this
  | cons a l => rfl
theorem signedS_pos (n : Int) : 0 < (signedS n).size := by
  unfold signedS
  split <;> (rw [ByteArray.size_append]; show 0 < 1 + _; omega)
theorem hexDigs_pos (f u : Nat) : 0 < (hexDigs (f + 1) u).length := by
  unfold hexDigs; split <;> simp
theorem numText_pos (n : Int) (h0 : 0 ≤ n) (h1 : n ≤ 65535) : 0 < (numText n).size := by
  unfold numText
  rw [if_neg (by omega)]
  split
  · show 0 < 1; omega
  · split
    · rw [ByteArray.size_append]; show 0 < 1 + _; omega
    · rw [ByteArray.size_append]; show 0 < _ + 1; omega
theorem formS_pos (k r : Nat) (n : Int) (h1 : 1 ≤ k) (h2 : k ≤ 10) (h3 : 0 < (nm k r).size) (h4 : klo k ≤ n) (h5 : n ≤ khi k) : 0 < (formS k (nm k r) n).size := by
  unfold formS
  split
  · rw [ByteArray.size_append, ByteArray.size_append]; show 0 < 1 + _ + 1; omega
  · split
    · rw [ByteArray.size_append, ByteArray.size_append, ByteArray.size_append]; show 0 < 1 + _ + _ + 1; omega
    · split
      · rename_i h; subst h
        simp only [klo, khi] at h4 h5
        split
        · exact signedS_pos n
        · exact numText_pos n (by omega) h5
      · split
        · rw [ByteArray.size_append, ByteArray.size_append]; show 0 < 1 + _ + 1; omega
        · split
          · rw [ByteArray.size_append]; show 0 < 1 + _; omega
          · exact h3
theorem size_of_nonempty {s : ByteArray} (h : s.toList.isEmpty = false) : 0 < s.size := by
  rcases Nat.eq_zero_or_pos s.size with h0 | h0
  · exfalso
    have h1 : s.toList = s.data.toList := ByteArray.toList_eq s
    have h2 : s.data.toList.length = s.size := by simp
    have h3 : s.data.toList = [] := List.eq_nil_of_length_eq_zero (by omega)
    rw [h1, h3] at h
    simp at h
  · exact h0
theorem opText_empty (k r n : Int) : (opText k r n).toList.isEmpty = !(opValid k r n) := by
  rcases hv : opValid k r n with _ | _
  · unfold opText; rw [hv, if_neg (by decide), ByteArray.toList_eq]; rfl
  · obtain ⟨a, b, h1, h2, h3, h4, h5, h6, h7, h8⟩ := opValid_parts hv
    unfold opText
    rw [hv, if_pos rfl, h1, h2, Int.toNat_natCast, Int.toNat_natCast]
    exact isEmpty_of_size (formS_pos a b n h3 h4 (size_of_nonempty h6) h7 h8)

set_option maxHeartbeats 1000000 in
set_option maxRecDepth 100000 in
theorem lawTexts_walk (k r n : Int) (w : World) (hT : Tabs w) :
    Calls Tryd.prog 3 #[.agg #[.int .i64 k, .int .i64 r, .int .i64 n]] w fun e w' => e = .returned (.bool true) ∧ Below w.heap.size w w' := by
  have hte := opText_empty k r n
  have HT := Lib.hid hT; clear hT
  go_enter Tryd.func3, Tryd.ntmps3
  go_wp2_with fail
  refine wp_region_gw (by kernel_rfl) (by kernel_rfl) ?_
  repeat (go_big_quiet_step (first | exact gw_quiet (alive06 _ (HT.out.below (by (repeat (first | exact Below.refl _ _ | refine Below.drew ?_ | (refine below_gw' ?_ (by first | omega | (simp [go_sem]; done) | (simp [go_sem]; omega)) _) | (refine Below.alloc ?_ (by first | omega | (simp [go_sem]; done) | (simp [go_sem]; omega)) _) | (refine Below.setCell ?_ (by first | omega | (simp [go_sem]; done) | (simp [go_sem]; omega)) _)))))) | exact gw_quiet (valid_any k r n _) | exact gw_quiet (rvalid_any k r n _) | exact gw_quiet (text_any k r n _ (HT.out.below (by (repeat (first | exact Below.refl _ _ | refine Below.drew ?_ | (refine below_gw' ?_ (by first | omega | (simp [go_sem]; done) | (simp [go_sem]; omega)) _) | (refine Below.alloc ?_ (by first | omega | (simp [go_sem]; done) | (simp [go_sem]; omega)) _) | (refine Below.setCell ?_ (by first | omega | (simp [go_sem]; done) | (simp [go_sem]; omega)) _)))))) | exact gw_quiet (rtext_any k r n _)))
  refine wpQuiet_nil ?_
  rintro _ ⟨p2, rfl⟩
  go_wp2_with fail
  go_ret
  exact ⟨rfl, by (repeat (first | exact Below.refl _ _ | refine Below.drew ?_ | (refine below_gw' ?_ (by first | omega | (simp [go_sem]; done) | (simp [go_sem]; omega)) _) | (refine Below.alloc ?_ (by first | omega | (simp [go_sem]; done) | (simp [go_sem]; omega)) _) | (refine Below.setCell ?_ (by first | omega | (simp [go_sem]; done) | (simp [go_sem]; omega)) _)))⟩
end Go.Proofs.YtocgjpijjghiiaaDoor

