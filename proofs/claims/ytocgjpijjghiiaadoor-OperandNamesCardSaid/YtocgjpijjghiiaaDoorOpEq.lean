/- slices.Equal, Index and Contains at operands. -/
import Derived.Test.YtocgjpijjghiiaaDoorRow
import Derived.Shelf.Abstract
namespace Go.Proofs.YtocgjpijjghiiaaDoor
open Go.RowKit Go.Sort

/-- An operand: kind, register, number. -/
abbrev Op3 := Int × Int × Int
/-- The cells of operands. -/
def opc (l : List Op3) : List Value := l.flatMap fun x => [.int .i64 x.1, .int .i64 x.2.1, .int .i64 x.2.2]
theorem opc_len (l : List Op3) : (opc l).length = l.length * 3 := by
  unfold opc
  induction l with
  | nil => rfl
  | cons a l ih => simp at ih ⊢; omega
theorem opc_get : ∀ (l : List Op3) (i : Nat) (x : Op3), l[i]? = some x → (opc l)[i * 3]? = some (.int .i64 x.1) ∧ (opc l)[i * 3 + 1]? = some (.int .i64 x.2.1) ∧ (opc l)[i * 3 + 2]? = some (.int .i64 x.2.2)
  | [], i, x, h => by simp at h
  | a :: l, 0, x, h => by
    simp at h; subst h
    exact ⟨rfl, rfl, rfl⟩
  | a :: l, i + 1, x, h => by
    have := opc_get l i x (by simpa using h)
    have e : ∀ k, (opc (a :: l))[(i + 1) * 3 + k]? = (opc l)[i * 3 + k]? := fun k => by
      show ([Value.int .i64 a.1, .int .i64 a.2.1, .int .i64 a.2.2] ++ opc l)[(i + 1) * 3 + k]? = _
      rw [List.getElem?_append_right (by simp; omega)]
      congr 1
      simp; omega
    refine ⟨?_, ?_, ?_⟩
    · have := e 0; simp only [Nat.add_zero] at this; rw [this]; exact (opc_get l i x (by simpa using h)).1
    · rw [e 1]; exact this.2.1
    · rw [e 2]; exact this.2.2

/-- An operand in a row. -/
theorem Row.op {w : World} {v : Value} {l : List Op3} (h : Row w v l.length (opc l)) : ∃ a cap, v = .slice a l.length cap ∧ l.length ≤ cap ∧ (l ≠ [] → ∃ g o, a = some ⟨g, o, none⟩ ∧ g < w.heap.size ∧ ∀ i x, l[i]? = some x →
    w.cell? ⟨g, o + i * 3, none⟩ = some (.int .i64 x.1) ∧ w.cell? ⟨g, o + i * 3 + 1, none⟩ = some (.int .i64 x.2.1) ∧ w.cell? ⟨g, o + i * 3 + 2, none⟩ = some (.int .i64 x.2.2)) := by
  obtain ⟨a, cap, hv, hn, h⟩ := h
  refine ⟨a, cap, hv, hn, fun hl => ?_⟩
  obtain ⟨g, o, ha, hg, hc⟩ := h (by intro e; apply hl; have := opc_len l; rw [e] at this; exact List.eq_nil_of_length_eq_zero (by simp at this; omega))
  refine ⟨g, o, ha, hg, fun i x hx => ?_⟩
  have hi : i < l.length := (List.getElem?_eq_some_iff.1 hx).1
  have hlen := opc_len l
  obtain ⟨e0, e1, e2⟩ := opc_get l i x hx
  exact ⟨(hc (i * 3) (by omega)).trans e0, by rw [Nat.add_assoc]; exact (hc (i * 3 + 1) (by omega)).trans e1, by rw [Nat.add_assoc]; exact (hc (i * 3 + 2) (by omega)).trans e2⟩

set_option maxHeartbeats 1000000 in
set_option maxRecDepth 100000 in
theorem equalOp_any (v1 v2 : Value) (a b : List Op3) (w : World) (h1 : Row w v1 a.length (opc a)) (h2 : Row w v2 b.length (opc b)) (hl : a.length ≤ 1000000) (hl2 : b.length ≤ 1000000) :
    Calls Tryd.prog 19 #[v1, v2] w fun e w' => e = .returned (.bool (decide (a = b))) ∧ Below w.heap.size w w' := by
  obtain ⟨a1, c1, rfl, hc1, h1⟩ := h1.op
  obtain ⟨a2, c2, rfl, hc2, h2⟩ := h2.op
  by_cases hlen : a.length = b.length
  · have hle : ((a.length : Int) != (b.length : Int)) = false := by simp; omega
    by_cases ha : a = []
    · subst ha
      obtain rfl : b = [] := List.eq_nil_of_length_eq_zero hlen.symm
      clear h1 h2 hle hlen
      go_enter Tryd.func19, Tryd.ntmps19
      go_wp2_with fail
      refine wp_loop_rounds 1 ?_
      rw [rounds_succ]
      go_wp2_with fail
      go_ret
      exact ⟨rfl, Below.refl _ _⟩
    · obtain ⟨g1, o1, rfl, hg1, h1⟩ := h1 ha
      obtain ⟨g2, o2, rfl, hg2, h2⟩ := h2 (by intro e; apply ha; rw [e] at hlen; exact List.eq_nil_of_length_eq_zero hlen)
      have H1 := Lib.hid h1; clear h1
      have H2 := Lib.hid h2; clear h2
      have Ha := Lib.hid ha; clear ha
      have Hlen := Lib.hid hlen; clear hlen
      go_enter Tryd.func19, Tryd.ntmps19
      go_wp2_with fail
      go_loopw [5, 13] (fun _ i wr => ∃ j : Nat, j ≤ a.length ∧ i = .int .i64 j ∧ Below w.heap.size w wr ∧ a.take j = b.take j) (fun _ i _ => a.length - (intOf i).toNat)
      case atStart => exact ⟨0, Nat.zero_le _, rfl, Below.refl _ _, rfl⟩
      case round =>
        obtain ⟨j, hj, rfl, hbel, htk⟩ := hrel
        have Htk := Lib.hid htk; clear htk
        by_cases hlt : j < a.length
        · obtain ⟨⟨x0, x1, x2⟩, hx⟩ : ∃ x, a[j]? = some x := ⟨_, List.getElem?_eq_getElem hlt⟩
          obtain ⟨⟨y0, y1, y2⟩, hy⟩ : ∃ y, b[j]? = some y := ⟨_, List.getElem?_eq_getElem (by have := Hlen.out; omega)⟩
          obtain ⟨cx0, cx1, cx2⟩ := H1.out j _ hx
          obtain ⟨cy0, cy1, cy2⟩ := H2.out j _ hy
          rw [← hbel.cell (p := ⟨_, _, none⟩) hg1] at cx0 cx1 cx2
          rw [← hbel.cell (p := ⟨_, _, none⟩) hg2] at cy0 cy1 cy2
          have Hx := Lib.hid hx; clear hx
          have Hy := Lib.hid hy; clear hy
          have HBEL := Lib.hid hbel; clear hbel
          have hi0 : (0 : Int) ≤ (j : Int) := by omega
          have hi1 : (j : Int) < (a.length : Int) := by omega
          have hi2 : (j : Int) < (b.length : Int) := by have := Hlen.out; omega
          by_cases e0 : x0 = y0
          · by_cases e1 : x1 = y1
            · by_cases e2 : x2 = y2
              · subst e0 e1 e2
                go_wp2_with fail
                go_region
                all_goals
                  go_wp2_with fail
                  go_roundw
                case rel => exact ⟨j + 1, by omega, by go_num, HBEL.out.drew, by rw [List.take_add_one, List.take_add_one, Htk.out, Hx.out, Hy.out]⟩
                case measure => simp [intOf]; omega
              · subst e0 e1
                go_wp2_with fail
                go_region
                all_goals
                  go_wp2_with fail
                  go_ret
                  exact ⟨by rw [decide_eq_false (fun e => e2 (by have h3 := Hx.out; rw [e, Hy.out] at h3; cases h3; rfl))]; rfl, HBEL.out.drew⟩
            · subst e0
              go_wp2_with fail
              go_region
              all_goals
                go_wp2_with fail
                go_ret
                exact ⟨by rw [decide_eq_false (fun e => e1 (by have h3 := Hx.out; rw [e, Hy.out] at h3; cases h3; rfl))]; rfl, HBEL.out.drew⟩
          · go_wp2_with fail
            go_region
            all_goals
              go_wp2_with fail
              go_ret
              exact ⟨by rw [decide_eq_false (fun e => e0 (by have h3 := Hx.out; rw [e, Hy.out] at h3; cases h3; rfl))]; rfl, HBEL.out.drew⟩
        · obtain rfl : j = a.length := by omega
          have hab : a = b := by
            have := Htk.out
            rw [List.take_length, Hlen.out, List.take_length] at this
            exact this
          have Hab := Lib.hid hab; clear hab
          have HBEL := Lib.hid hbel; clear hbel
          go_wp2_with fail
          go_ret
          exact ⟨by rw [decide_eq_true Hab.out]; rfl, HBEL.out⟩
  · have hle : ((a.length : Int) != (b.length : Int)) = true := by rw [bne_iff_ne]; omega
    have hr : decide (a = b) = false := decide_eq_false (fun e => hlen (by rw [e]))
    rw [hr]
    clear h1 h2 hlen hr
    go_enter Tryd.func19, Tryd.ntmps19
    go_wp2_with fail
    go_ret
    exact ⟨rfl, Below.refl _ _⟩
end Go.Proofs.YtocgjpijjghiiaaDoor

