/- breadboardref06: Valid and Text give what operand's give. -/
import Derived.Test.YtocgjpijjghiiaaDoorRef06b
namespace Go.Proofs.YtocgjpijjghiiaaDoor
open Go.RowKit Go.Sort

theorem names_tie : ∀ k : Fin 11, ∀ r : Fin 9, (nm k.val r.val).toList.isEmpty = false → k.val ≠ 0 → k.val ≠ 6 → k.val ≠ 7 → k.val ≠ 10 →
    rname k.val r.val = if k.val = 4 then (⟨#[40]⟩ : ByteArray) ++ nm k.val r.val ++ (⟨#[41]⟩ : ByteArray) else nm k.val r.val := by decide +kernel
theorem names_none : ∀ k : Fin 11, ∀ r : Fin 9, (nm k.val r.val).toList.isEmpty = true → k.val ≠ 0 → k.val ≠ 6 → k.val ≠ 7 → k.val ≠ 10 → rname k.val r.val = ⟨#[]⟩ := by decide +kernel
theorem names_some : ∀ k : Fin 11, ∀ r : Fin 9, (nm k.val r.val).toList.isEmpty = false → k.val ≠ 0 → k.val ≠ 6 → k.val ≠ 7 → k.val ≠ 10 → (rname k.val r.val).toList.isEmpty = false := by decide +kernel
theorem names_star : ∀ r : Fin 9, ((nm 6 r.val).toList.isEmpty = !(r.val == 0)) ∧ ((nm 7 r.val).toList.isEmpty = !(r.val == 0)) ∧ ((nm 10 r.val).toList.isEmpty = !(r.val == 0)) := by decide +kernel
theorem rcount_le (k : Nat) : rcount k ≤ 9 := by unfold rcount; split <;> omega
theorem rname_out (k r : Int) (h : r < 0 ∨ 9 ≤ r) : rname k r = ⟨#[]⟩ := by
  unfold rname; have := rcount_le k.toNat; rw [if_neg (by omega)]

theorem opValid_plain (k : Nat) (r n : Int) (hk : k = 1 ∨ k = 2 ∨ k = 3 ∨ k = 4 ∨ k = 8 ∨ k = 9) : (!(rname k r).toList.isEmpty && (n == 0)) = opValid k r n := by
  have hk2 : klo k = 0 ∧ khi k = 0 := by rcases hk with rfl | rfl | rfl | rfl | rfl | rfl <;> exact ⟨rfl, rfl⟩
  by_cases hr : r < 0 ∨ 9 ≤ r
  · rw [rname_out k r hr]
    unfold opValid
    rcases hr with hr | hr
    · rw [decide_eq_false (show ¬ 0 ≤ r by omega)]; simp
    · rw [decide_eq_false (show ¬ r < 9 by omega)]; simp
  · obtain ⟨m, rfl⟩ := Int.eq_ofNat_of_zero_le (show 0 ≤ r by omega)
    unfold opValid
    rw [Int.toNat_natCast, Int.toNat_natCast, hk2.1, hk2.2, decide_eq_true (show (1 : Int) ≤ k by omega), decide_eq_true (show (k : Int) ≤ 10 by omega), decide_eq_true (show (0 : Int) ≤ m by omega), decide_eq_true (show (m : Int) < 9 by omega)]
    have h0 : (n == 0) = (decide (0 ≤ n) && decide (n ≤ 0)) := by
      rw [Bool.eq_iff_iff]; simp; omega
    rcases he : (nm k m).toList.isEmpty with _ | _
    · have := names_some ⟨k, by omega⟩ ⟨m, by omega⟩ he (by simp; omega) (by simp; omega) (by simp; omega) (by simp; omega)
      simp only at this
      rw [this, h0]; simp
    · have := names_none ⟨k, by omega⟩ ⟨m, by omega⟩ he (by simp; omega) (by simp; omega) (by simp; omega) (by simp; omega)
      simp only at this
      rw [this]; simp
theorem opValid_idx (r n : Int) : (!(rname 5 r).toList.isEmpty && decide (-128 ≤ n) && decide (n ≤ 127)) = opValid 5 r n := by
  by_cases hr : r < 0 ∨ 9 ≤ r
  · rw [rname_out 5 r hr]
    unfold opValid
    rcases hr with hr | hr
    · rw [decide_eq_false (show ¬ 0 ≤ r by omega)]; simp
    · rw [decide_eq_false (show ¬ r < 9 by omega)]; simp
  · obtain ⟨m, rfl⟩ := Int.eq_ofNat_of_zero_le (show 0 ≤ r by omega)
    unfold opValid
    rw [Int.toNat_natCast, show (5 : Int).toNat = 5 from rfl, decide_eq_true (show (0 : Int) ≤ m by omega), decide_eq_true (show (m : Int) < 9 by omega)]
    rcases he : (nm 5 m).toList.isEmpty with _ | _
    · have := names_some ⟨5, by omega⟩ ⟨m, by omega⟩ he (by simp) (by simp) (by simp) (by simp)
      simp only at this
      rw [show rname 5 (m : Int) = rname ((5 : Nat) : Int) m from rfl, this]; simp [klo, khi]
    · have := names_none ⟨5, by omega⟩ ⟨m, by omega⟩ he (by simp) (by simp) (by simp) (by simp)
      simp only at this
      rw [show rname 5 (m : Int) = rname ((5 : Nat) : Int) m from rfl, this]; simp
theorem opValid_num (k : Nat) (r n : Int) (hk : k = 6 ∨ k = 7 ∨ k = 10) : ((r == 0) && decide (klo k ≤ n) && decide (n ≤ khi k)) = opValid k r n := by
  unfold opValid
  rw [Int.toNat_natCast, decide_eq_true (show (1 : Int) ≤ k by omega), decide_eq_true (show (k : Int) ≤ 10 by omega)]
  by_cases hr : r < 0 ∨ 9 ≤ r
  · have : (r == 0) = false := by simp; omega
    rw [this]
    rcases hr with hr | hr
    · rw [decide_eq_false (show ¬ 0 ≤ r by omega)]; simp
    · rw [decide_eq_false (show ¬ r < 9 by omega)]; simp
  · obtain ⟨m, rfl⟩ := Int.eq_ofNat_of_zero_le (show 0 ≤ r by omega)
    obtain ⟨s6, s7, s10⟩ := names_star ⟨m, by omega⟩
    simp only at s6 s7 s10
    have hm : (nm k m).toList.isEmpty = !(m == 0) := by rcases hk with rfl | rfl | rfl <;> assumption
    rw [Int.toNat_natCast, hm, decide_eq_true (show (0 : Int) ≤ m by omega), decide_eq_true (show (m : Int) < 9 by omega)]
    have : ((m : Int) == 0) = (m == 0) := by rw [Bool.eq_iff_iff]; simp
    rw [this]; simp

theorem rvalid_any (k r n : Int) (w : World) :
    Calls Tryd.prog 10 #[.agg #[.int .i64 k, .int .i64 r, .int .i64 n]] w fun e w' => e = .returned (.bool (opValid k r n)) ∧ Below w.heap.size w w' := by
  by_cases hk : k < 1 ∨ 10 < k
  · have : opValid k r n = false := by
      unfold opValid
      rcases hk with hk | hk
      · rw [decide_eq_false (show ¬ 1 ≤ k by omega)]; simp
      · rw [decide_eq_false (show ¬ k ≤ 10 by omega)]; simp
    rw [this]
    exact rvalid_none k r n w hk
  · obtain ⟨a, rfl⟩ := Int.eq_ofNat_of_zero_le (show 0 ≤ k by omega)
    by_cases h1 : a = 1 ∨ a = 2 ∨ a = 3 ∨ a = 4 ∨ a = 8 ∨ a = 9
    · rw [← opValid_plain a r n h1]
      exact rvalid_plain a r n w (by omega)
    · by_cases h2 : a = 5
      · subst h2
        show Calls _ _ #[.agg #[.int .i64 5, .int .i64 r, .int .i64 n]] _ fun e w' => e = .returned (.bool (opValid 5 r n)) ∧ _
        rw [← opValid_idx r n]
        exact rvalid_idx r n w
      · have h3 : a = 6 ∨ a = 7 ∨ a = 10 := by omega
        rw [← opValid_num a r n h3]
        exact rvalid_num a r n w h3

theorem opText_plain (k : Nat) (r n : Int) (hk : k = 1 ∨ k = 2 ∨ k = 3 ∨ k = 4 ∨ k = 8 ∨ k = 9) (hv : opValid k r n = true) : opText k r n = rname k r := by
  unfold opText
  rw [hv, if_pos rfl]
  obtain ⟨a, b, h1, rfl, h3, h4, h5, h6, h7, h8⟩ := opValid_parts hv
  obtain rfl : k = a := by omega
  rw [Int.toNat_natCast, Int.toNat_natCast]
  have := names_tie ⟨k, by omega⟩ ⟨b, h5⟩ h6 (by simp; omega) (by simp; omega) (by simp; omega) (by simp; omega)
  simp only at this
  rw [this]
  unfold formS
  rcases hk with rfl | rfl | rfl | rfl | rfl | rfl <;> rfl
theorem opText_idx (r n : Int) (hv : opValid 5 r n = true) : opText 5 r n = (⟨#[40]⟩ : ByteArray) ++ rname 5 r ++ signedS n ++ (⟨#[41]⟩ : ByteArray) := by
  unfold opText
  rw [hv, if_pos rfl]
  obtain ⟨a, b, h1, rfl, h3, h4, h5, h6, h7, h8⟩ := opValid_parts hv
  obtain rfl : a = 5 := by omega
  rw [Int.toNat_natCast, show (5 : Int).toNat = 5 from rfl]
  have := names_tie ⟨5, by omega⟩ ⟨b, h5⟩ h6 (by simp) (by simp) (by simp) (by simp)
  simp only at this
  rw [show rname 5 (b : Int) = rname ((5 : Nat) : Int) b from rfl, this]
  rfl
theorem rname_len : ∀ k : Fin 11, ∀ r : Fin 9, (rname k.val r.val).size ≤ 10 := by decide +kernel

end Go.Proofs.YtocgjpijjghiiaaDoor

