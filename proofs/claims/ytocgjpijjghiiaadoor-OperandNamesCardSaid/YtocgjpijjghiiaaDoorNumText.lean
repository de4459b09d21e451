/- num.Text. -/
import Derived.Test.YtocgjpijjghiiaaDoorFits
import Derived.Test.YtocgjpijjghiiaaDoorUpper
import Derived.Test.YtocgjpijjghiiaaDoorFmt16
import Derived.Test.YtocgjpijjghiiaaDoorShelf
namespace Go.Proofs.YtocgjpijjghiiaaDoor
open Go.RowKit Go.Sort

/-- The form in which num.Text prints a number. -/
def numText (n : Int) : ByteArray :=
  if n < 0 ∨ 65535 < n then ⟨#[]⟩
  else if n ≤ 9 then ⟨#[UInt8.ofNat (48 + n.toNat)]⟩
  else if 57 < ((upper ⟨(hexDigs 4 n.toNat).toArray⟩ ++ (⟨#[72]⟩ : ByteArray)).data[0]?.getD 0).toNat then (⟨#[48]⟩ : ByteArray) ++ (upper ⟨(hexDigs 4 n.toNat).toArray⟩ ++ (⟨#[72]⟩ : ByteArray))
  else upper ⟨(hexDigs 4 n.toNat).toArray⟩ ++ (⟨#[72]⟩ : ByteArray)

theorem hexDigs_len : ∀ (f u : Nat), (hexDigs f u).length ≤ f
  | 0, _ => by simp [hexDigs]
  | f + 1, u => by
    unfold hexDigs
    split
    · simp
    · have := hexDigs_len f (u / 16); simp; omega

theorem getD_first (X : ByteArray) (h : 0 < X.size) : X.data[0]?.getD 0 = X[0] := by
  rw [Array.getElem?_eq_getElem (by exact h)]; rfl

set_option maxHeartbeats 1000000 in
theorem numText_any (n : Int) (w : World) (hT : Tabs w) :
    Calls Tryd.prog 54 #[.int .i64 n] w fun e w' => e = .returned (.string (numText n)) ∧ Below w.heap.size w w' := by
  by_cases h0 : n < 0 ∨ 65535 < n
  · have hf : (decide (0 ≤ n) && decide (n ≤ 65535)) = false := by simp; omega
    have hr : numText n = ⟨#[]⟩ := by unfold numText; rw [if_pos h0]
    rw [hr]
    clear h0
    go_enter Tryd.func54, Tryd.ntmps54
    go_wp2_with fail
    refine (fits1 _ _ n _ _ ?hc1).mono ?_
    case hc1 => simp [go_sem]
    rintro e w2 ⟨rfl, rfl⟩
    rw [hf]
    go_wp2_with fail
    go_ret
    exact ⟨rfl, by (repeat (first | exact Below.refl _ _ | refine Below.drew ?_ | (refine below_gw' ?_ (by first | omega | (simp [go_sem]; done) | (simp [go_sem]; omega)) _) | (refine Below.alloc ?_ (by first | omega | (simp [go_sem]; done) | (simp [go_sem]; omega)) _) | (refine Below.setCell ?_ (by first | omega | (simp [go_sem]; done) | (simp [go_sem]; omega)) _)))⟩
  · have hf : (decide (0 ≤ n) && decide (n ≤ 65535)) = true := by simp; omega
    have hf0 : 0 ≤ n := by omega
    obtain ⟨m, rfl⟩ := Int.eq_ofNat_of_zero_le hf0
    have hf1 : m ≤ 65535 := by omega
    by_cases h9 : m ≤ 9
    · have hr : numText m = ⟨(Lib.decDigits m).toArray⟩ := by
        have : m = 0 ∨ m = 1 ∨ m = 2 ∨ m = 3 ∨ m = 4 ∨ m = 5 ∨ m = 6 ∨ m = 7 ∨ m = 8 ∨ m = 9 := by omega
        rcases this with rfl | rfl | rfl | rfl | rfl | rfl | rfl | rfl | rfl | rfl <;> rw [Lib.decDigits] <;> rfl
      have h9i : (m : Int) ≤ 9 := by omega
      rw [hr]
      clear h0
      go_enter Tryd.func54, Tryd.ntmps54
      go_wp2_with fail
      refine (fits1 _ _ m _ _ ?hc2).mono ?_
      case hc2 => simp [go_sem]
      rintro e w2 ⟨rfl, rfl⟩
      rw [hf]
      go_wp2_with fail
      refine (Tryd.strconv_Itoa_small m (by omega) _).mono ?_
      rintro e w2 ⟨rfl, rfl⟩
      go_wp2_with fail
      go_ret
      exact ⟨rfl, by (repeat (first | exact Below.refl _ _ | refine Below.drew ?_ | (refine below_gw' ?_ (by first | omega | (simp [go_sem]; done) | (simp [go_sem]; omega)) _) | (refine Below.alloc ?_ (by first | omega | (simp [go_sem]; done) | (simp [go_sem]; omega)) _) | (refine Below.setCell ?_ (by first | omega | (simp [go_sem]; done) | (simp [go_sem]; omega)) _)))⟩
    · have h9i : ¬ (m : Int) ≤ 9 := by omega
      go_enter Tryd.func54, Tryd.ntmps54
      go_wp2_with fail
      refine (fits1 _ _ m _ _ ?hc3).mono ?_
      case hc3 => simp [go_sem]
      rintro e w2 ⟨rfl, rfl⟩
      rw [hf]
      go_wp2_with fail
      refine (fmtInt16 m _ (by omega) hf1 (hT.below (by (repeat (first | exact Below.refl _ _ | refine Below.drew ?_ | (refine below_gw' ?_ (by first | omega | (simp [go_sem]; done) | (simp [go_sem]; omega)) _) | (refine Below.alloc ?_ (by first | omega | (simp [go_sem]; done) | (simp [go_sem]; omega)) _) | (refine Below.setCell ?_ (by first | omega | (simp [go_sem]; done) | (simp [go_sem]; omega)) _)))))).mono ?_
      rintro e w2 ⟨rfl, hb⟩
      obtain ⟨p1, rfl⟩ := gw_of_below hb
      clear hb
      go_wp2_with fail
      refine (upper_any _ _ ?hu).mono ?_
      case hu => have := hexDigs_len 4 m; unfold maxLen; show (hexDigs 4 m).toArray.size ≤ _; simp; omega
      rintro e w2 ⟨rfl, hb⟩
      obtain ⟨p2, rfl⟩ := gw_of_below hb
      clear hb
      have hr : numText m = if 57 < ((upper ⟨(hexDigs 4 m).toArray⟩ ++ (⟨#[72]⟩ : ByteArray)).data[0]?.getD 0).toNat then (⟨#[48]⟩ : ByteArray) ++ (upper ⟨(hexDigs 4 m).toArray⟩ ++ (⟨#[72]⟩ : ByteArray)) else upper ⟨(hexDigs 4 m).toArray⟩ ++ (⟨#[72]⟩ : ByteArray) := by
        unfold numText
        rw [if_neg h0, if_neg (by omega)]
        rfl
      have hU4 : (upper ⟨(hexDigs 4 m).toArray⟩).size ≤ 4 := by
        have := hexDigs_len 4 m
        show ((((hexDigs 4 m).toArray.toList.map up).toArray).size ≤ 4)
        simp; omega
      have Hr := Lib.hid hr; clear hr h0
      generalize upper ⟨(hexDigs 4 m).toArray⟩ = U at Hr hU4 ⊢
      go_wp2_with fail
      · go_ret
        refine ⟨?_, by (repeat (first | exact Below.refl _ _ | refine Below.drew ?_ | (refine below_gw' ?_ (by first | omega | (simp [go_sem]; done) | (simp [go_sem]; omega)) _) | (refine Below.alloc ?_ (by first | omega | (simp [go_sem]; done) | (simp [go_sem]; omega)) _) | (refine Below.setCell ?_ (by first | omega | (simp [go_sem]; done) | (simp [go_sem]; omega)) _)))⟩
        rename_i h
        rw [Hr.out, if_pos (by rw [getD_first _ (by simp; show 0 < U.size + 1; omega)]; omega)]
        rfl
      · go_ret
        refine ⟨?_, by (repeat (first | exact Below.refl _ _ | refine Below.drew ?_ | (refine below_gw' ?_ (by first | omega | (simp [go_sem]; done) | (simp [go_sem]; omega)) _) | (refine Below.alloc ?_ (by first | omega | (simp [go_sem]; done) | (simp [go_sem]; omega)) _) | (refine Below.setCell ?_ (by first | omega | (simp [go_sem]; done) | (simp [go_sem]; omega)) _)))⟩
        rename_i h
        rw [Hr.out, if_neg (by rw [getD_first _ (by simp; show 0 < U.size + 1; omega)]; omega)]
        rfl
end Go.Proofs.YtocgjpijjghiiaaDoor

