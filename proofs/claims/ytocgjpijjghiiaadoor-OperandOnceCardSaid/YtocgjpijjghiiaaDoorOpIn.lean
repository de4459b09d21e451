/- slices.Index and slices.Contains at operands. -/
import Derived.Test.YtocgjpijjghiiaaDoorOpEq
namespace Go.Proofs.YtocgjpijjghiiaaDoor
open Go.RowKit Go.Sort

theorem not_mem_take_succ {l : List Op3} {j : Nat} {x y : Op3} (h : x ∉ l.take j) (hj : l[j]? = some y) (hne : x ≠ y) : x ∉ l.take (j + 1) := by
  rw [List.take_add_one, hj]
  simp only [Option.toList, List.mem_append, List.mem_singleton]
  rintro (h1 | h1)
  · exact h h1
  · exact hne h1

set_option maxHeartbeats 1000000 in
set_option maxRecDepth 100000 in
theorem indexOp_any (v1 : Value) (l : List Op3) (x0 x1 x2 : Int) (w : World) (h1 : Row w v1 l.length (opc l)) (hl : l.length ≤ 1000000) :
    Calls Tryd.prog 33 #[v1, .agg #[.int .i64 x0, .int .i64 x1, .int .i64 x2]] w fun e w' => (∃ i : Int, e = .returned (.int .i64 i) ∧ decide (0 ≤ i) = decide ((x0, x1, x2) ∈ l)) ∧ Below w.heap.size w w' := by
  obtain ⟨a1, c1, rfl, hc1, h1⟩ := h1.op
  have H1 := Lib.hid h1; clear h1
  go_enter Tryd.func33, Tryd.ntmps33
  go_wp2_with fail
  go_loopw [5, 8] (fun _ i wr => ∃ j : Nat, j ≤ l.length ∧ i = .int .i64 j ∧ Below (w.heap.size + 1) (w.alloc (.cells #[.int .i64 x0, .int .i64 x1, .int .i64 x2] 23)) wr ∧ (x0, x1, x2) ∉ l.take j) (fun _ i _ => l.length - (intOf i).toNat)
  case atStart => exact ⟨0, Nat.zero_le _, rfl, Below.refl _ _, by simp⟩
  case round =>
    obtain ⟨j, hj, rfl, hbel, hno⟩ := hrel
    have Hno := Lib.hid hno; clear hno
    have HBW : Below w.heap.size w wr := Below.trans (b := w.alloc (.cells #[.int .i64 x0, .int .i64 x1, .int .i64 x2] 23)) (by (repeat (first | exact Below.refl _ _ | refine Below.drew ?_ | (refine below_gw' ?_ (by first | omega | (simp [go_sem]; done) | (simp [go_sem]; omega)) _) | (refine Below.alloc ?_ (by first | omega | (simp [go_sem]; done) | (simp [go_sem]; omega)) _) | (refine Below.setCell ?_ (by first | omega | (simp [go_sem]; done) | (simp [go_sem]; omega)) _)))) (hbel.mono (by omega))
    have HBW' := Lib.hid HBW; clear HBW; have HBW := HBW'; clear HBW'
    by_cases hlt : j < l.length
    · obtain ⟨⟨y0, y1, y2⟩, hy⟩ : ∃ y, l[j]? = some y := ⟨_, List.getElem?_eq_getElem hlt⟩
      obtain ⟨g, o, rfl, hg, hc⟩ := H1.out (by intro e; rw [e] at hlt; exact absurd hlt (Nat.not_lt_zero _))
      obtain ⟨cy0, cy1, cy2⟩ := hc j _ hy
      clear hc
      rw [← HBW.out.cell (p := ⟨_, _, none⟩) hg] at cy0 cy1 cy2
      have bx0 : wr.cell? ⟨w.heap.size, 0, none⟩ = some (.int .i64 x0) := by rw [hbel.cell (p := ⟨w.heap.size, 0, none⟩) (Nat.lt_succ_self _)]; simp [go_sem]
      have bx1 : wr.cell? ⟨w.heap.size, 1, none⟩ = some (.int .i64 x1) := by rw [hbel.cell (p := ⟨w.heap.size, 1, none⟩) (Nat.lt_succ_self _)]; simp [go_sem]
      have bx2 : wr.cell? ⟨w.heap.size, 2, none⟩ = some (.int .i64 x2) := by rw [hbel.cell (p := ⟨w.heap.size, 2, none⟩) (Nat.lt_succ_self _)]; simp [go_sem]
      have Hy := Lib.hid hy; clear hy
      have HBEL := Lib.hid hbel; clear hbel
      have hi0 : (0 : Int) ≤ (j : Int) := by omega
      have hi1 : (j : Int) < (l.length : Int) := by omega
      by_cases e0 : x0 = y0
      · by_cases e1 : x1 = y1
        · by_cases e2 : x2 = y2
          · subst e0 e1 e2
            go_wp2_with fail
            go_region
            all_goals
              go_wp2_with fail
              go_ret
              exact ⟨⟨j, rfl, by rw [decide_eq_true hi0, decide_eq_true (List.mem_of_getElem? Hy.out)]⟩, HBW.out.drew⟩
          · subst e0 e1
            go_wp2_with fail
            go_region
            all_goals
              go_wp2_with fail
              go_roundw
            case rel => exact ⟨j + 1, by omega, by go_num, HBEL.out.drew, not_mem_take_succ Hno.out Hy.out (fun e => e2 (by cases e; rfl))⟩
            case measure => simp [intOf]; omega
        · subst e0
          go_wp2_with fail
          go_region
          all_goals
            go_wp2_with fail
            go_roundw
          case rel => exact ⟨j + 1, by omega, by go_num, HBEL.out.drew, not_mem_take_succ Hno.out Hy.out (fun e => e1 (by cases e; rfl))⟩
          case measure => simp [intOf]; omega
      · go_wp2_with fail
        go_region
        all_goals
          go_wp2_with fail
          go_roundw
        case rel => exact ⟨j + 1, by omega, by go_num, HBEL.out.drew, not_mem_take_succ Hno.out Hy.out (fun e => e0 (by cases e; rfl))⟩
        case measure => simp [intOf]; omega
    · obtain rfl : j = l.length := by omega
      have hno := Hno.out
      rw [List.take_length] at hno
      have Hno2 := Lib.hid hno; clear hno
      go_wp2_with fail
      go_ret
      exact ⟨⟨-1, rfl, by rw [decide_eq_false Hno2.out]; rfl⟩, HBW.out⟩

set_option maxHeartbeats 1000000 in
set_option maxRecDepth 100000 in
theorem containsOp_any (v1 : Value) (l : List Op3) (x0 x1 x2 : Int) (w : World) (h1 : Row w v1 l.length (opc l)) (hl : l.length ≤ 1000000) :
    Calls Tryd.prog 14 #[v1, .agg #[.int .i64 x0, .int .i64 x1, .int .i64 x2]] w fun e w' => e = .returned (.bool (decide ((x0, x1, x2) ∈ l))) ∧ Below w.heap.size w w' := by
  have HR := Lib.hid h1; clear h1
  go_enter Tryd.func14, Tryd.ntmps14
  go_wp2_with fail
  refine (indexOp_any v1 l x0 x1 x2 _ (HR.out.below (by (repeat (first | exact Below.refl _ _ | refine Below.drew ?_ | (refine below_gw' ?_ (by first | omega | (simp [go_sem]; done) | (simp [go_sem]; omega)) _) | (refine Below.alloc ?_ (by first | omega | (simp [go_sem]; done) | (simp [go_sem]; omega)) _) | (refine Below.setCell ?_ (by first | omega | (simp [go_sem]; done) | (simp [go_sem]; omega)) _))))) hl).mono ?_
  rintro e w1 ⟨⟨i, rfl, hi⟩, hb⟩
  obtain ⟨p1, rfl⟩ := gw_of_below hb
  clear hb
  have HI := Lib.hid hi; clear hi
  go_wp2_with fail
  go_ret
  exact ⟨by rw [← HI.out]; rfl, by (repeat (first | exact Below.refl _ _ | refine Below.drew ?_ | (refine below_gw' ?_ (by first | omega | (simp [go_sem]; done) | (simp [go_sem]; omega)) _) | (refine Below.alloc ?_ (by first | omega | (simp [go_sem]; done) | (simp [go_sem]; omega)) _) | (refine Below.setCell ?_ (by first | omega | (simp [go_sem]; done) | (simp [go_sem]; omega)) _)))⟩
end Go.Proofs.YtocgjpijjghiiaaDoor

