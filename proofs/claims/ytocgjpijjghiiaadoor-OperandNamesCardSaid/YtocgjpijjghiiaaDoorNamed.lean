/- operand.Named and operand.Reserved. -/
import Derived.Test.YtocgjpijjghiiaaDoorWords
import Derived.Test.YtocgjpijjghiiaaDoorUpper
import Derived.Shelf.Abstract
namespace Go.Proofs.YtocgjpijjghiiaaDoor
open Go.RowKit Go.Sort

/-- The operands that a name denotes. -/
def namedL (s : ByteArray) : List (Nat × Nat) := wlist (fun x => x.toList == (upper s).toList) 5

set_option maxHeartbeats 400000 in
theorem named1 (s u : ByteArray) (b : Nat) (w : World) (hc : w.cell? ⟨b, 0, none⟩ = some (.string u)) :
    Calls Tryd.prog 32 #[.string s, .pointer (some ⟨b, 0, none⟩)] w fun e w' => e = .returned (.bool (s.toList == u.toList)) ∧ w = w' := by
  go_enter Tryd.func32, Tryd.ntmps32
  go_wp2
  go_ret
  exact ⟨rfl, rfl⟩

set_option maxHeartbeats 400000 in
theorem named_any (s : ByteArray) (w : World) (hs : s.size ≤ maxLen) :
    Calls Tryd.prog 13 #[.string s] w fun e w' => ∃ v, e = .returned v ∧ Row w' v (namedL s).length (opCells (namedL s)) ∧ Below w.heap.size w w' := by
  go_enter Tryd.func13, Tryd.ntmps13
  go_wp2_with fail
  refine (upper_any s _ hs).mono ?_
  rintro e w1 ⟨rfl, hb⟩
  obtain ⟨p1, rfl⟩ := gw_of_below hb
  clear hb
  go_wp2_with fail
  refine (words_any (fun x => x.toList == (upper s).toList) 32 _ _ (enters_of Tryd.func32 (by kernel_rfl) rfl) ?hok).mono ?_
  case hok =>
    intro x W hb
    refine named1 x (upper s) _ W ?_
    rw [hb.cell (by simp [go_sem])]
    simp [go_sem]
  rintro e w2 ⟨v, rfl, hown, hb⟩
  have HOWN := Lib.hid hown; clear hown
  have HB := Lib.hid hb; clear hb
  go_wp2_with fail
  go_ret
  refine ⟨_, rfl, Row.of_owns HOWN.out, ?_⟩
  refine Below.trans (b := ((gw w p1).alloc (.cells #[.string (upper s)] 9))) (by (repeat (first | exact Below.refl _ _ | refine Below.drew ?_ | (refine below_gw' ?_ (by first | omega | (simp [go_sem]; done) | (simp [go_sem]; omega)) _) | (refine Below.alloc ?_ (by first | omega | (simp [go_sem]; done) | (simp [go_sem]; omega)) _) | (refine Below.setCell ?_ (by first | omega | (simp [go_sem]; done) | (simp [go_sem]; omega)) _)))) (HB.out.mono (by simp [go_sem]; omega))

set_option maxHeartbeats 400000 in
theorem reserved_any (s : ByteArray) (w : World) (hs : s.size ≤ maxLen) :
    Calls Tryd.prog 21 #[.string s] w fun e w' => e = .returned (.bool (decide (0 < (namedL s).length))) ∧ Below w.heap.size w w' := by
  go_enter Tryd.func21, Tryd.ntmps21
  go_wp2_with fail
  refine (named_any s _ hs).mono ?_
  rintro e w1 ⟨v, rfl, ⟨a, cap, rfl, hr⟩, hb⟩
  have HR := Lib.hid hr; clear hr
  go_wp2_with fail
  go_ret
  refine ⟨?_, hb⟩
  simp
end Go.Proofs.YtocgjpijjghiiaaDoor

