/- Joined texts: NumF. -/
import Derived.Test.YtnjpfhihbjihbaaGreatDoorS21
/- num: the ways to cut the digits out of a word. -/
namespace Go.Proofs.YtnjpfhihbjihbaaGreatDoor
open Go.RowKit Go.Sort

theorem upper_size (s : ByteArray) : (upper s).size = s.size := by
  show ((s.data.toList.map up).toArray).size = _
  simp
theorem mk_size (l : List UInt8) : (⟨l.toArray⟩ : ByteArray).size = l.length := by show l.toArray.size = _; simp
theorem mk_list (l : List UInt8) : (⟨l.toArray⟩ : ByteArray).data.toList = l := by simp
theorem trimPrefix_len (u p : List UInt8) : (Lib.trimPrefix u p).length ≤ u.length := by
  unfold Lib.trimPrefix; split
  · simp
  · exact Nat.le_refl _
theorem trimSuffix_len (u p : List UInt8) : (Lib.trimSuffix u p).length ≤ u.length := by
  unfold Lib.trimSuffix; split
  · simp
  · exact Nat.le_refl _

set_option maxHeartbeats 400000 in
theorem cut_same (s : ByteArray) (w : World) :
    Calls Tryz.prog 166 #[.string s] w fun e w' => e = .returned (.tuple #[.string s, .bool true]) ∧ w = w' := by
  go_enter Tryz.func166, Tryz.ntmps166
  go_wp2
  go_ret2
  exact ⟨rfl, rfl⟩

def cutP (s p : ByteArray) : ByteArray := ⟨(Lib.trimPrefix (upper s).data.toList p.data.toList).toArray⟩
def cutS (s p : ByteArray) : ByteArray := ⟨(Lib.trimSuffix (upper s).data.toList p.data.toList).toArray⟩
def hasP (s p : ByteArray) : Bool := Lib.hasPrefix (upper s).data.toList p.data.toList
def hasS (s p : ByteArray) : Bool := Lib.hasSuffix (upper s).data.toList p.data.toList

set_option maxHeartbeats 1000000 in
theorem cut_prefix (s p : ByteArray) (b : Nat) (w : World) (hs : s.size ≤ 1000000) (hb : b < w.heap.size) (hc : w.cell? ⟨b, 0, none⟩ = some (.string p)) :
    Calls Tryz.prog 180 #[.string s, .pointer (some ⟨b, 0, none⟩)] w fun e w' => e = .returned (.tuple #[.string (cutP s p), .bool (hasP s p)]) ∧ Below w.heap.size w w' := by
  have HU := Lib.hid (fun w => upper_any s w (by unfold maxLen; omega))
  have HC : Hid (∀ w, Calls Tryz.prog 181 #[.string (upper s), .string p] w fun e w' => e = .returned (.tuple #[.string (cutP s p), .bool (hasP s p)]) ∧ w' = w) := Lib.hid (fun w => Tryz.strings_CutPrefix (upper s) p w)
  generalize cutP s p = D at HC ⊢
  generalize hasP s p = B at HC ⊢
  go_enter Tryz.func180, Tryz.ntmps180
  go_wp2_with fail
  refine wp_region_gw (by kernel_rfl) (by kernel_rfl) ?_
  repeat (go_big_quiet_step (first | exact gw_quiet (HU.out _) | exact gw_quiet_same ((HC.out _).mono (fun e w' h => ⟨h.1, h.2.symm⟩))))
  refine wpQuiet_nil ?_
  rintro _ ⟨p2, rfl⟩
  go_wp2_with fail
  go_ret2
  exact ⟨rfl, below_gw w p2⟩

set_option maxHeartbeats 1000000 in
theorem cut_suffix (s p : ByteArray) (b : Nat) (w : World) (hs : s.size ≤ 1000000) (hb : b < w.heap.size) (hc : w.cell? ⟨b, 0, none⟩ = some (.string p)) :
    Calls Tryz.prog 182 #[.string s, .pointer (some ⟨b, 0, none⟩)] w fun e w' => e = .returned (.tuple #[.string (cutS s p), .bool (hasS s p)]) ∧ Below w.heap.size w w' := by
  have HU := Lib.hid (fun w => upper_any s w (by unfold maxLen; omega))
  have HC : Hid (∀ w, Calls Tryz.prog 183 #[.string (upper s), .string p] w fun e w' => e = .returned (.tuple #[.string (cutS s p), .bool (hasS s p)]) ∧ w' = w) := Lib.hid (fun w => Tryz.strings_CutSuffix (upper s) p w (by rw [upper_size]; omega))
  generalize cutS s p = D at HC ⊢
  generalize hasS s p = B at HC ⊢
  go_enter Tryz.func182, Tryz.ntmps182
  go_wp2_with fail
  refine wp_region_gw (by kernel_rfl) (by kernel_rfl) ?_
  repeat (go_big_quiet_step (first | exact gw_quiet (HU.out _) | exact gw_quiet_same ((HC.out _).mono (fun e w' h => ⟨h.1, h.2.symm⟩))))
  refine wpQuiet_nil ?_
  rintro _ ⟨p2, rfl⟩
  go_wp2_with fail
  go_ret2
  exact ⟨rfl, below_gw w p2⟩

/-- The suffix H behind a digit. -/
def cutH (s : ByteArray) : ByteArray := cutS s ⟨#[72]⟩
def hasH (s : ByteArray) : Bool := hasS s ⟨#[72]⟩ && (decide (0 < (cutH s).size) && decide ((bat (cutH s) 0).toNat ≤ 57))

set_option maxHeartbeats 1000000 in
theorem cut_hex (s : ByteArray) (w : World) (hs : s.size ≤ 1000000) :
    Calls Tryz.prog 168 #[.string s] w fun e w' => e = .returned (.tuple #[.string (cutH s), .bool (hasH s)]) ∧ Below w.heap.size w w' := by
  have HC := Lib.hid (fun (b : Nat) (w : World) => cut_suffix s ⟨#[72]⟩ b w hs)
  unfold hasH
  have hD : cutS s ⟨#[72]⟩ = cutH s := rfl
  rw [hD] at HC
  clear hD
  generalize cutH s = D at HC ⊢
  generalize hasS s ⟨#[72]⟩ = B at HC ⊢
  obtain ⟨R, hR⟩ : ∃ R, (B && (decide (0 < D.size) && decide ((bat D 0).toNat ≤ 57))) = R := ⟨_, rfl⟩
  rw [hR]
  have hmf : ∀ (fn : Fn) (first cap : Array Value) (w : World), (Instr.makeFunc fn first cap).run Tryz.prog w = .ok (.func fn first cap) w := fun _ _ _ _ => rfl
  have hcase : B = false ∨ (B = true ∧ D.size = 0) ∨ (B = true ∧ 0 < D.size ∧ (bat D 0).toNat ≤ 57) ∨ (B = true ∧ 0 < D.size ∧ ¬ (bat D 0).toNat ≤ 57) := by
    rcases B with _ | _
    · exact .inl rfl
    · by_cases h1 : D.size = 0
      · exact .inr (.inl ⟨rfl, h1⟩)
      · by_cases h2 : (bat D 0).toNat ≤ 57
        · exact .inr (.inr (.inl ⟨rfl, by omega, h2⟩))
        · exact .inr (.inr (.inr ⟨rfl, by omega, h2⟩))
  have he : D.toList.isEmpty = decide (D.size = 0) := by
    rw [ByteArray.toList_eq, show D.size = D.data.toList.length by simp]
    cases D.data.toList with
    | nil => rfl
    | cons a l => simp
  have he2 : (D.toList == []) = decide (D.size = 0) := by rw [← he]; cases D.toList <;> rfl
  rcases hcase with rfl | ⟨rfl, h1⟩ | ⟨rfl, h1, h2⟩ | ⟨rfl, h1, h2⟩
  · obtain rfl : false = R := by rw [← hR]; rfl
    clear hR he he2
    go_enter Tryz.func168, Tryz.ntmps168
    go_wp2_with (first | (go_at_call 169; go_in) | fail)
    refine (HC.out _ _ ?h1 ?h2).mono ?_
    case h1 => simp [go_sem]
    case h2 => simp [go_sem]
    rintro e w1 ⟨rfl, hb⟩
    obtain ⟨p1, rfl⟩ := gw_of_below hb
    clear hb
    go_wp2_with fail
    refine wp_region_gw (by kernel_rfl) (by kernel_rfl) ?_
    repeat (go_big_quiet_step (fail))
    refine wpQuiet_nil ?_
    rintro _ ⟨p2, rfl⟩
    go_wp2_with fail
    go_ret2
    exact ⟨rfl, by (repeat (first | exact Below.refl _ _ | refine Below.drew ?_ | (refine below_gw' ?_ (by first | omega | (simp [go_sem]; done) | (simp [go_sem]; omega)) _) | (refine Below.alloc ?_ (by first | omega | (simp [go_sem]; done) | (simp [go_sem]; omega)) _) | (refine Below.setCell ?_ (by first | omega | (simp [go_sem]; done) | (simp [go_sem]; omega)) _)))⟩
  · obtain rfl : false = R := by rw [← hR, decide_eq_false (show ¬ 0 < D.size by omega)]; rfl
    rw [decide_eq_true h1] at he he2
    clear hR h1
    go_enter Tryz.func168, Tryz.ntmps168
    go_wp2_with (first | (go_at_call 169; go_in) | fail)
    refine (HC.out _ _ ?h1 ?h2).mono ?_
    case h1 => simp [go_sem]
    case h2 => simp [go_sem]
    rintro e w1 ⟨rfl, hb⟩
    obtain ⟨p1, rfl⟩ := gw_of_below hb
    clear hb
    go_wp2_with fail
    refine wp_region_gw (by kernel_rfl) (by kernel_rfl) ?_
    repeat (go_big_quiet_step (fail))
    refine wpQuiet_nil ?_
    rintro _ ⟨p2, rfl⟩
    go_wp2_with fail
    go_ret2
    exact ⟨rfl, by (repeat (first | exact Below.refl _ _ | refine Below.drew ?_ | (refine below_gw' ?_ (by first | omega | (simp [go_sem]; done) | (simp [go_sem]; omega)) _) | (refine Below.alloc ?_ (by first | omega | (simp [go_sem]; done) | (simp [go_sem]; omega)) _) | (refine Below.setCell ?_ (by first | omega | (simp [go_sem]; done) | (simp [go_sem]; omega)) _)))⟩
  · obtain rfl : true = R := by rw [← hR, decide_eq_true h1, decide_eq_true h2]; rfl
    rw [decide_eq_false (by omega)] at he he2
    have h3 : (D[0].toNat : Int) ≤ 57 := by rw [bat_get D 0 h1]; omega
    clear hR h2
    go_enter Tryz.func168, Tryz.ntmps168
    go_wp2_with (first | (go_at_call 169; go_in) | fail)
    refine (HC.out _ _ ?h1 ?h2).mono ?_
    case h1 => simp [go_sem]
    case h2 => simp [go_sem]
    rintro e w1 ⟨rfl, hb⟩
    obtain ⟨p1, rfl⟩ := gw_of_below hb
    clear hb
    go_wp2_with fail
    refine wp_region_gw (by kernel_rfl) (by kernel_rfl) ?_
    repeat (go_big_quiet_step (fail))
    refine wpQuiet_nil ?_
    rintro _ ⟨p2, rfl⟩
    go_wp2_with fail
    go_ret2
    exact ⟨rfl, by (repeat (first | exact Below.refl _ _ | refine Below.drew ?_ | (refine below_gw' ?_ (by first | omega | (simp [go_sem]; done) | (simp [go_sem]; omega)) _) | (refine Below.alloc ?_ (by first | omega | (simp [go_sem]; done) | (simp [go_sem]; omega)) _) | (refine Below.setCell ?_ (by first | omega | (simp [go_sem]; done) | (simp [go_sem]; omega)) _)))⟩
  · obtain rfl : false = R := by rw [← hR, decide_eq_true h1, decide_eq_false h2]; rfl
    rw [decide_eq_false (by omega)] at he he2
    have h3 : ¬ (D[0].toNat : Int) ≤ 57 := by rw [bat_get D 0 h1]; omega
    clear hR h2
    go_enter Tryz.func168, Tryz.ntmps168
    go_wp2_with (first | (go_at_call 169; go_in) | fail)
    refine (HC.out _ _ ?h1 ?h2).mono ?_
    case h1 => simp [go_sem]
    case h2 => simp [go_sem]
    rintro e w1 ⟨rfl, hb⟩
    obtain ⟨p1, rfl⟩ := gw_of_below hb
    clear hb
    go_wp2_with fail
    refine wp_region_gw (by kernel_rfl) (by kernel_rfl) ?_
    repeat (go_big_quiet_step (fail))
    refine wpQuiet_nil ?_
    rintro _ ⟨p2, rfl⟩
    go_wp2_with fail
    go_ret2
    refine ⟨?_, by (repeat (first | exact Below.refl _ _ | refine Below.drew ?_ | (refine below_gw' ?_ (by first | omega | (simp [go_sem]; done) | (simp [go_sem]; omega)) _) | (refine Below.alloc ?_ (by first | omega | (simp [go_sem]; done) | (simp [go_sem]; omega)) _) | (refine Below.setCell ?_ (by first | omega | (simp [go_sem]; done) | (simp [go_sem]; omega)) _)))⟩
    show Ending.returned (.tuple #[.string D, .bool (decide ((D[0].toNat : Int) ≤ 57))]) = _
    rw [decide_eq_false (by omega)]
end Go.Proofs.YtnjpfhihbjihbaaGreatDoor
