/- operand.signed, the forms of the kinds, operand.Text and operand.Valid. -/
import Derived.Test.YtocgjpijjghiiaaDoorOf
import Derived.Test.YtocgjpijjghiiaaDoorNumText
namespace Go.Proofs.YtocgjpijjghiiaaDoor
open Go.RowKit Go.Sort

/-- A number with its sign. -/
def signedS (n : Int) : ByteArray := if n < 0 then (⟨#[45]⟩ : ByteArray) ++ numText (-n) else (⟨#[43]⟩ : ByteArray) ++ numText n

theorem numText_len (n : Int) : (numText n).size ≤ 6 := by
  unfold numText
  split
  · exact Nat.zero_le _
  · split
    · show 1 ≤ 6; omega
    · have hU4 : (upper ⟨(hexDigs 4 n.toNat).toArray⟩).size ≤ 4 := by
        have := hexDigs_len 4 n.toNat
        show ((((hexDigs 4 n.toNat).toArray.toList.map up).toArray).size ≤ 4)
        simp; omega
      split
      · rw [ByteArray.size_append, ByteArray.size_append]; show 1 + (_ + 1) ≤ 6; omega
      · rw [ByteArray.size_append]; show _ + 1 ≤ 6; omega
theorem signedS_len (n : Int) : (signedS n).size ≤ 7 := by
  unfold signedS
  split
  · have := numText_len (-n); rw [ByteArray.size_append]; show 1 + _ ≤ 7; omega
  · have := numText_len n; rw [ByteArray.size_append]; show 1 + _ ≤ 7; omega

set_option maxHeartbeats 400000 in
theorem signed_any (n : Int) (w : World) (hT : Tabs w) (h1 : -1000000 ≤ n) (h2 : n ≤ 1000000) :
    Calls Tryd.prog 52 #[.int .i64 n] w fun e w' => e = .returned (.string (signedS n)) ∧ Below w.heap.size w w' := by
  by_cases h : n < 0
  · have hr : signedS n = (⟨#[45]⟩ : ByteArray) ++ numText (-n) := by unfold signedS; rw [if_pos h]
    have hl := numText_len (-n)
    rw [hr]
    go_enter Tryd.func52, Tryd.ntmps52
    go_wp2_with fail
    refine (numText_any _ _ hT).mono ?_
    rintro e w2 ⟨rfl, hb⟩
    go_wp2_with fail
    go_ret
    exact ⟨rfl, hb⟩
  · have hr : signedS n = (⟨#[43]⟩ : ByteArray) ++ numText n := by unfold signedS; rw [if_neg h]
    have hl := numText_len n
    rw [hr]
    go_enter Tryd.func52, Tryd.ntmps52
    go_wp2_with fail
    refine (numText_any _ _ hT).mono ?_
    rintro e w2 ⟨rfl, hb⟩
    go_wp2_with fail
    go_ret
    exact ⟨rfl, hb⟩

/-- What the form of kind k gives. -/
def formS (k : Nat) (reg : ByteArray) (n : Int) : ByteArray :=
  if k = 4 then (⟨#[40]⟩ : ByteArray) ++ reg ++ (⟨#[41]⟩ : ByteArray)
  else if k = 5 then (⟨#[40]⟩ : ByteArray) ++ reg ++ signedS n ++ (⟨#[41]⟩ : ByteArray)
  else if k = 6 then (if n < 0 then signedS n else numText n)
  else if k = 7 then (⟨#[40]⟩ : ByteArray) ++ numText n ++ (⟨#[41]⟩ : ByteArray)
  else if k = 10 then (⟨#[36]⟩ : ByteArray) ++ signedS (n + 2)
  else reg

set_option maxHeartbeats 400000 in
theorem form_any (k : Nat) (reg : ByteArray) (n : Int) (w : World) (hT : Tabs w) (hk1 : 1 ≤ k) (hk2 : k ≤ 10) (h1 : -100000 ≤ n) (h2 : n ≤ 100000) (hreg : reg.size ≤ 10) :
    Calls Tryd.prog (kf k) #[.string reg, .int .i64 n] w fun e w' => e = .returned (.string (formS k reg n)) ∧ Below w.heap.size w w' := by
  have hk : k = 1 ∨ k = 2 ∨ k = 3 ∨ k = 4 ∨ k = 5 ∨ k = 6 ∨ k = 7 ∨ k = 8 ∨ k = 9 ∨ k = 10 := by omega
  have hplain : Calls Tryd.prog 49 #[.string reg, .int .i64 n] w fun e w' => e = .returned (.string reg) ∧ Below w.heap.size w w' := by
    go_enter Tryd.func49, Tryd.ntmps49
    go_wp2
    go_ret
    exact ⟨rfl, Below.refl _ _⟩
  rcases hk with rfl | rfl | rfl | rfl | rfl | rfl | rfl | rfl | rfl | rfl
  · exact hplain
  · exact hplain
  · exact hplain
  · clear hplain hk1 hk2
    show Calls Tryd.prog 50 #[.string reg, .int .i64 n] w fun e w' => e = .returned (.string ((⟨#[40]⟩ : ByteArray) ++ reg ++ (⟨#[41]⟩ : ByteArray))) ∧ Below w.heap.size w w'
    go_enter Tryd.func50, Tryd.ntmps50
    go_wp2
    go_ret
    exact ⟨rfl, Below.refl _ _⟩
  · clear hplain hk1 hk2
    show Calls Tryd.prog 51 #[.string reg, .int .i64 n] w fun e w' => e = .returned (.string ((⟨#[40]⟩ : ByteArray) ++ reg ++ signedS n ++ (⟨#[41]⟩ : ByteArray))) ∧ Below w.heap.size w w'
    have hl := signedS_len n
    go_enter Tryd.func51, Tryd.ntmps51
    go_wp2_with fail
    refine (signed_any _ _ hT (by omega) (by omega)).mono ?_
    rintro e w2 ⟨rfl, hb⟩
    go_wp2_with fail
    go_ret
    exact ⟨rfl, hb⟩
  · clear hplain hk1 hk2
    show Calls Tryd.prog 53 #[.string reg, .int .i64 n] w fun e w' => e = .returned (.string (if n < 0 then signedS n else numText n)) ∧ Below w.heap.size w w'
    by_cases h : n < 0
    · rw [if_pos h]
      go_enter Tryd.func53, Tryd.ntmps53
      go_wp2_with fail
      refine (signed_any _ _ hT (by omega) (by omega)).mono ?_
      rintro e w2 ⟨rfl, hb⟩
      go_wp2_with fail
      go_ret
      exact ⟨rfl, hb⟩
    · rw [if_neg h]
      go_enter Tryd.func53, Tryd.ntmps53
      go_wp2_with fail
      refine (numText_any _ _ hT).mono ?_
      rintro e w2 ⟨rfl, hb⟩
      go_wp2_with fail
      go_ret
      exact ⟨rfl, hb⟩
  · clear hplain hk1 hk2
    show Calls Tryd.prog 55 #[.string reg, .int .i64 n] w fun e w' => e = .returned (.string ((⟨#[40]⟩ : ByteArray) ++ numText n ++ (⟨#[41]⟩ : ByteArray))) ∧ Below w.heap.size w w'
    have hl := numText_len n
    go_enter Tryd.func55, Tryd.ntmps55
    go_wp2_with fail
    refine (numText_any _ _ hT).mono ?_
    rintro e w2 ⟨rfl, hb⟩
    go_wp2_with fail
    go_ret
    exact ⟨rfl, hb⟩
  · exact hplain
  · exact hplain
  · clear hplain hk1 hk2
    show Calls Tryd.prog 56 #[.string reg, .int .i64 n] w fun e w' => e = .returned (.string ((⟨#[36]⟩ : ByteArray) ++ signedS (n + 2))) ∧ Below w.heap.size w w'
    have hl := signedS_len (n + 2)
    go_enter Tryd.func56, Tryd.ntmps56
    go_wp2_with fail
    refine (signed_any _ _ hT (by omega) (by omega)).mono ?_
    rintro e w2 ⟨rfl, hb⟩
    go_wp2_with fail
    go_ret
    exact ⟨rfl, hb⟩

/-- Whether an operand is valid. -/
def opValid (k r n : Int) : Bool := decide (1 ≤ k) && decide (k ≤ 10) && decide (0 ≤ r) && decide (r < 9) && !(nm k.toNat r.toNat).toList.isEmpty && decide (klo k.toNat ≤ n) && decide (n ≤ khi k.toNat)
/-- The form of an operand. -/
def opText (k r n : Int) : ByteArray := if opValid k r n then formS k.toNat (nm k.toNat r.toNat) n else ⟨#[]⟩

theorem kf_enters (k : Nat) (hk1 : 1 ≤ k) (hk2 : k ≤ 10) : ∀ args w, (callFunc (kf k) args).run Tryd.prog w = .ok (.enter (kf k) args) w := by
  have hk : k = 1 ∨ k = 2 ∨ k = 3 ∨ k = 4 ∨ k = 5 ∨ k = 6 ∨ k = 7 ∨ k = 8 ∨ k = 9 ∨ k = 10 := by omega
  rcases hk with rfl | rfl | rfl | rfl | rfl | rfl | rfl | rfl | rfl | rfl
  · exact enters_of Tryd.func49 (by kernel_rfl) rfl
  · exact enters_of Tryd.func49 (by kernel_rfl) rfl
  · exact enters_of Tryd.func49 (by kernel_rfl) rfl
  · exact enters_of Tryd.func50 (by kernel_rfl) rfl
  · exact enters_of Tryd.func51 (by kernel_rfl) rfl
  · exact enters_of Tryd.func53 (by kernel_rfl) rfl
  · exact enters_of Tryd.func55 (by kernel_rfl) rfl
  · exact enters_of Tryd.func49 (by kernel_rfl) rfl
  · exact enters_of Tryd.func49 (by kernel_rfl) rfl
  · exact enters_of Tryd.func56 (by kernel_rfl) rfl

theorem nm_len (k r : Nat) : (nm k r).size ≤ 10 := by
  unfold nm
  split <;> decide
theorem klo_ge (k : Nat) : -100000 ≤ klo k := by unfold klo; split <;> omega
theorem khi_le (k : Nat) : khi k ≤ 100000 := by unfold khi; split <;> omega

theorem of_no (k r n : Int) (w : World) (h : opValid k r n = false) :
    Calls Tryd.prog 27 #[.agg #[.int .i64 k, .int .i64 r, .int .i64 n]] w fun e w' =>
      e = .returned (.tuple #[.agg #[.string ⟨#[]⟩, .string ⟨#[]⟩, .string ⟨#[]⟩, .string ⟨#[]⟩, .string ⟨#[]⟩, .string ⟨#[]⟩, .string ⟨#[]⟩, .string ⟨#[]⟩, .string ⟨#[]⟩, .int .i64 0, .int .i64 0, .nilFunc], .string ⟨#[]⟩, .bool false]) ∧ Below w.heap.size w w' := by
  by_cases hk : k < 1 ∨ 10 < k
  · exact of_no_kind k r n w hk
  · obtain ⟨k, rfl⟩ := Int.eq_ofNat_of_zero_le (show 0 ≤ k by omega)
    by_cases hr : r < 0 ∨ 9 ≤ r
    · exact of_no_reg k r n w (by omega) (by omega) hr
    · obtain ⟨r, rfl⟩ := Int.eq_ofNat_of_zero_le (show 0 ≤ r by omega)
      by_cases hn : (nm k r).toList.isEmpty = true
      · exact of_no_name k r n w (by omega) (by omega) (by omega) hn
      · have hn' : (nm k r).toList.isEmpty = false := by simpa using hn
        refine of_no_num k r n w (by omega) (by omega) (by omega) hn' ?_
        unfold opValid at h
        rw [Int.toNat_natCast, Int.toNat_natCast, hn', decide_eq_true (show (1 : Int) ≤ k by omega), decide_eq_true (show (k : Int) ≤ 10 by omega), decide_eq_true (show (0 : Int) ≤ r by omega), decide_eq_true (show (r : Int) < 9 by omega)] at h
        simp at h
        omega

theorem opValid_parts {k r n : Int} (h : opValid k r n = true) : ∃ a b : Nat, k = a ∧ r = b ∧ 1 ≤ a ∧ a ≤ 10 ∧ b < 9 ∧ (nm a b).toList.isEmpty = false ∧ klo a ≤ n ∧ n ≤ khi a := by
  unfold opValid at h
  simp only [Bool.and_eq_true, decide_eq_true_eq, Bool.not_eq_true'] at h
  obtain ⟨⟨⟨⟨⟨⟨h1, h2⟩, h3⟩, h4⟩, h5⟩, h6⟩, h7⟩ := h
  obtain ⟨a, rfl⟩ := Int.eq_ofNat_of_zero_le (show 0 ≤ k by omega)
  obtain ⟨b, rfl⟩ := Int.eq_ofNat_of_zero_le h3
  exact ⟨a, b, rfl, rfl, by omega, by omega, by omega, h5, h6, h7⟩

set_option maxHeartbeats 1000000 in
theorem valid_any (k r n : Int) (w : World) :
    Calls Tryd.prog 9 #[.agg #[.int .i64 k, .int .i64 r, .int .i64 n]] w fun e w' => e = .returned (.bool (opValid k r n)) ∧ Below w.heap.size w w' := by
  rcases hv : opValid k r n with _ | _
  · go_enter Tryd.func9, Tryd.ntmps9
    go_wp2_with fail
    refine (of_no k r n _ hv).mono ?_
    rintro e w1 ⟨rfl, hb⟩
    obtain ⟨p1, rfl⟩ := gw_of_below hb
    clear hb
    go_wp2_with fail
    go_ret
    exact ⟨rfl, by (repeat (first | exact Below.refl _ _ | refine Below.drew ?_ | (refine below_gw' ?_ (by first | omega | (simp [go_sem]; done) | (simp [go_sem]; omega)) _) | (refine Below.alloc ?_ (by first | omega | (simp [go_sem]; done) | (simp [go_sem]; omega)) _) | (refine Below.setCell ?_ (by first | omega | (simp [go_sem]; done) | (simp [go_sem]; omega)) _)))⟩
  · obtain ⟨a, b, rfl, rfl, h1, h2, h3, h4, h5, h6⟩ := opValid_parts hv
    go_enter Tryd.func9, Tryd.ntmps9
    go_wp2_with fail
    refine (of_yes a b n _ h1 h2 h3 h4 h5 h6).mono ?_
    rintro e w1 ⟨rfl, hb⟩
    obtain ⟨p1, rfl⟩ := gw_of_below hb
    clear hb
    go_wp2_with fail
    go_ret
    exact ⟨rfl, by (repeat (first | exact Below.refl _ _ | refine Below.drew ?_ | (refine below_gw' ?_ (by first | omega | (simp [go_sem]; done) | (simp [go_sem]; omega)) _) | (refine Below.alloc ?_ (by first | omega | (simp [go_sem]; done) | (simp [go_sem]; omega)) _) | (refine Below.setCell ?_ (by first | omega | (simp [go_sem]; done) | (simp [go_sem]; omega)) _)))⟩

set_option maxHeartbeats 1000000 in
set_option maxRecDepth 100000 in
theorem text_any (k r n : Int) (w : World) (hT : Tabs w) :
    Calls Tryd.prog 11 #[.agg #[.int .i64 k, .int .i64 r, .int .i64 n]] w fun e w' => e = .returned (.string (opText k r n)) ∧ Below w.heap.size w w' := by
  rcases hv : opValid k r n with _ | _
  · have hr : opText k r n = ⟨#[]⟩ := by unfold opText; rw [hv]; rfl
    rw [hr]
    go_enter Tryd.func11, Tryd.ntmps11
    go_wp2_with fail
    refine (of_no k r n _ hv).mono ?_
    rintro e w1 ⟨rfl, hb⟩
    obtain ⟨p1, rfl⟩ := gw_of_below hb
    clear hb
    go_wp2_with fail
    go_ret
    exact ⟨rfl, by (repeat (first | exact Below.refl _ _ | refine Below.drew ?_ | (refine below_gw' ?_ (by first | omega | (simp [go_sem]; done) | (simp [go_sem]; omega)) _) | (refine Below.alloc ?_ (by first | omega | (simp [go_sem]; done) | (simp [go_sem]; omega)) _) | (refine Below.setCell ?_ (by first | omega | (simp [go_sem]; done) | (simp [go_sem]; omega)) _)))⟩
  · have hr : opText k r n = formS k.toNat (nm k.toNat r.toNat) n := by unfold opText; rw [hv]; rfl
    obtain ⟨a, b, rfl, rfl, h1, h2, h3, h4, h5, h6⟩ := opValid_parts hv
    rw [Int.toNat_natCast, Int.toNat_natCast] at hr
    rw [hr]
    clear hr hv
    have HT := Lib.hid hT; clear hT
    have hent := kf_enters a h1 h2
    go_enter Tryd.func11, Tryd.ntmps11
    go_wp2_with fail
    refine (of_yes a b n _ h1 h2 h3 h4 h5 h6).mono ?_
    rintro e w1 ⟨rfl, hb⟩
    obtain ⟨p1, rfl⟩ := gw_of_below hb
    clear hb
    go_wp2_with fail
    refine (form_any a (nm a b) n _ (HT.out.below (by (repeat (first | exact Below.refl _ _ | refine Below.drew ?_ | (refine below_gw' ?_ (by first | omega | (simp [go_sem]; done) | (simp [go_sem]; omega)) _) | (refine Below.alloc ?_ (by first | omega | (simp [go_sem]; done) | (simp [go_sem]; omega)) _) | (refine Below.setCell ?_ (by first | omega | (simp [go_sem]; done) | (simp [go_sem]; omega)) _))))) h1 h2 (by have := klo_ge a; omega) (by have := khi_le a; omega) (nm_len a b)).mono ?_
    rintro e w1 ⟨rfl, hb⟩
    obtain ⟨p2, rfl⟩ := gw_of_below hb
    clear hb
    go_wp2_with fail
    go_ret
    exact ⟨rfl, by (repeat (first | exact Below.refl _ _ | refine Below.drew ?_ | (refine below_gw' ?_ (by first | omega | (simp [go_sem]; done) | (simp [go_sem]; omega)) _) | (refine Below.alloc ?_ (by first | omega | (simp [go_sem]; done) | (simp [go_sem]; omega)) _) | (refine Below.setCell ?_ (by first | omega | (simp [go_sem]; done) | (simp [go_sem]; omega)) _)))⟩
end Go.Proofs.YtocgjpijjghiiaaDoor

