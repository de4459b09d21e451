/- num.Fits at one number. -/
import Derived.Test.YtocgjpijjghiiaaDoorBase
namespace Go.Proofs.YtocgjpijjghiiaaDoor
open Go.RowKit

set_option maxHeartbeats 400000 in
theorem fits1 (lo hi n : Int) (b : Nat) (w : World) (hc : w.cell? ⟨b, 0, none⟩ = some (.int .i64 n)) :
    Calls Tryd.prog 42 #[.int .i64 lo, .int .i64 hi, .slice (some ⟨b, 0, none⟩) 1 1] w fun e w' => e = .returned (.bool (decide (lo ≤ n) && decide (n ≤ hi))) ∧ w = w' := by
  by_cases h1 : n < lo
  · go_enter Tryd.func42, Tryd.ntmps42
    go_wp2
    refine wp_loop_rounds 2 ?_
    rw [rounds_succ]
    go_wp2
    go_ret
    exact ⟨by simp; omega, rfl⟩
  · by_cases h2 : hi < n
    · go_enter Tryd.func42, Tryd.ntmps42
      go_wp2
      refine wp_loop_rounds 2 ?_
      rw [rounds_succ]
      go_wp2
      go_ret
      exact ⟨by simp; omega, rfl⟩
    · go_enter Tryd.func42, Tryd.ntmps42
      go_wp2
      refine wp_loop_rounds 2 ?_
      rw [rounds_succ]
      go_wp2
      rw [rounds_succ]
      go_wp2
      go_ret
      exact ⟨by simp; omega, rfl⟩
end Go.Proofs.YtocgjpijjghiiaaDoor
