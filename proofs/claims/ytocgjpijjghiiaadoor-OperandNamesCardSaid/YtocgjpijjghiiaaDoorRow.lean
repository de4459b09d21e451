/- Slices as rows of cells: what a slice value reads as. -/
import Derived.Test.YtocgjpijjghiiaaDoorBase
namespace Go.Proofs.YtocgjpijjghiiaaDoor
open Go.RowKit Go.Sort

/-- The slice value v, of n elements, reads as the cells xs (all of them, element by element). -/
def Row (w : World) (v : Value) (n : Nat) (xs : List Value) : Prop :=
  ∃ a cap, v = .slice a n cap ∧ n ≤ cap ∧ (xs ≠ [] → ∃ g o, a = some ⟨g, o, none⟩ ∧ g < w.heap.size ∧ ∀ j, j < xs.length → w.cell? ⟨g, o + j, none⟩ = xs[j]?)

theorem Row.below {w w' : World} {v : Value} {n : Nat} {xs : List Value} (h : Row w v n xs) (hb : Below w.heap.size w w') : Row w' v n xs := by
  obtain ⟨a, cap, hv, hn, h⟩ := h
  refine ⟨a, cap, hv, hn, fun hx => ?_⟩
  obtain ⟨g, o, ha, hg, hc⟩ := h hx
  exact ⟨g, o, ha, Nat.lt_of_lt_of_le hg hb.size, fun j hj => (hb.cell (p := ⟨g, o + j, none⟩) hg).trans (hc j hj)⟩

theorem Row.nil (w : World) : Row w (.slice none 0 0) 0 [] := ⟨none, 0, rfl, Nat.le_refl _, fun h => absurd rfl h⟩

theorem Row.of_owns {w : World} {base : Nat} {e : TypeId} {size : Nat} {v : Value} {n : Nat} {xs : List Value} (h : w.ownsRow base e size v n xs) : Row w v n xs := by
  obtain ⟨h1, h2⟩ := h
  rcases h2 with ⟨rfl, rfl⟩ | ⟨g, cap, cur, rfl, hg, hh, hn, hcap, hcur, rfl⟩
  · refine ⟨none, 0, rfl, Nat.le_refl _, fun hx => ?_⟩
    rw [Nat.zero_mul] at h1
    exact absurd (List.eq_nil_of_length_eq_zero h1) hx
  · refine ⟨_, cap, rfl, hn, fun hx => ⟨g, 0, rfl, lt_of_block hh, fun j hj => ?_⟩⟩
    simp only [World.cell?, hh, Nat.zero_add]
    rw [h1] at hj
    rw [List.getElem?_take_of_lt hj]
    simp
end Go.Proofs.YtocgjpijjghiiaaDoor

