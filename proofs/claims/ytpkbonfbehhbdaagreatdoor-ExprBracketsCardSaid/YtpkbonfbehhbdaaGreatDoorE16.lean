/- Joined texts: NumD, NumF. -/
import Derived.Test.YtpkbonfbehhbdaaGreatDoorE05
import Derived.Test.YtpkbonfbehhbdaaGreatDoorE13
/- num.digits: digits to a base. -/
namespace Go.Proofs.YtpkbonfbehhbdaaGreatDoor
open Go.RowKit Go.Sort

def hexTab : ByteArray := ⟨#[48, 49, 50, 51, 52, 53, 54, 55, 56, 57, 65, 66, 67, 68, 69, 70]⟩
theorem digIdx : ∀ n : Fin 256, Lib.indexByte [48, 49, 50, 51, 52, 53, 54, 55, 56, 57, 65, 66, 67, 68, 69, 70] (UInt8.ofNat n.val) = if digU (UInt8.ofNat n.val) = 99 then -1 else (digU (UInt8.ofNat n.val) : Int) := by decide +kernel
theorem digIdx' (c : UInt8) : Lib.indexByte [48, 49, 50, 51, 52, 53, 54, 55, 56, 57, 65, 66, 67, 68, 69, 70] ((c.toNat : Int).toNat.toUInt8) = if digU c = 99 then -1 else (digU c : Int) := by
  have h := digIdx ⟨c.toNat, c.toNat_lt⟩
  simp only [UInt8.ofNat_toNat] at h
  rw [← h]
  congr 1
  rw [Int.toNat_natCast]
  exact UInt8.ofNat_toNat
theorem digU_99 (c : UInt8) (h : digU c ≠ 99) : digU c ≤ 15 := by
  unfold digU at h ⊢
  repeat' split at h
  · rename_i h1; rw [if_pos h1]; omega
  · rename_i h1 h2; rw [if_neg h1, if_pos h2]; omega
  · exact absurd rfl h
/-- What a look for a number hands back. -/
def dR (o : Option Nat) : Int × Bool := match o with | some n => (n, true) | none => (0, false)
theorem numR_eq (s : ByteArray) : numR s = dR (numP s) := rfl
theorem str_get (s : ByteArray) (k : Nat) (h : k < s.size) : s.data.toList.drop k = s[k] :: s.data.toList.drop (k + 1) := by
  rw [List.drop_eq_getElem_cons (by simpa using h)]
  simp; rfl

set_option maxHeartbeats 1000000 in
theorem digits_any (s : ByteArray) (b : Nat) (w : World) (hs : s.size ≤ 1000000) (hb : 1 ≤ b) (hb2 : b ≤ 16) :
    Calls Tryz.prog 145 #[.string s, .int .i64 b] w fun e w' => e = .returned (.tuple #[.int .i64 (dR (valU b s.data.toList)).1, .bool (dR (valU b s.data.toList)).2]) ∧ w = w' := by
  obtain ⟨R, hR⟩ : ∃ R, dR (valU b s.data.toList) = R := ⟨_, rfl⟩
  rw [hR]
  by_cases h0 : s.size = 0
  · have he : s.data.toList = [] := List.eq_nil_of_length_eq_zero (by simpa using h0)
    have he2 : s.toList = [] := by rw [ByteArray.toList_eq]; exact he
    have he3 : s.toList.isEmpty = true := by rw [he2]; rfl
    obtain rfl : (0, false) = R := by rw [← hR, he]; rfl
    clear hR
    have h0' : (s.size : Int) ≤ 0 := by omega
    go_enter Tryz.func145, Tryz.ntmps145
    go_wp2_with fail
    go_loop [6, 7, 11] (fun x _ i => x = .int .i64 0 ∧ i = .int .i64 0) (fun _ _ _ => 0)
    case atStart => exact ⟨rfl, rfl⟩
    case round =>
      obtain ⟨rfl, rfl⟩ := hrel
      go_wp2_with fail
      go_ret2
      exact ⟨rfl, rfl⟩
  · have hne : s.data.toList ≠ [] := by intro h; apply h0; have := congrArg List.length h; simpa using this
    have hne2 : ¬ s.toList = [] := by rw [ByteArray.toList_eq]; exact hne
    have hne3 : s.toList.isEmpty = false := by simpa using hne2
    have hR2 : dR (valGo b 0 s.data.toList) = R := by
      rw [← hR]
      unfold valU
      rw [if_neg hne]
    have HR := Lib.hid hR2; clear hR hR2 hne
    have hb0 : (1 : Int) ≤ (b : Int) := by omega
    have hb3 : (b : Int) ≤ 16 := by omega
    go_enter Tryz.func145, Tryz.ntmps145
    go_wp2_with fail
    go_loop [6, 7, 11] (fun x _ i => ∃ k n : Nat, k ≤ s.size ∧ n ≤ 65535 ∧ i = .int .i64 k ∧ x = .int .i64 n ∧ Hid (valGo b 0 s.data.toList = valGo b n (s.data.toList.drop k))) (fun _ _ i => s.size - (intOf i).toNat)
    case atStart => exact ⟨0, 0, Nat.zero_le _, Nat.zero_le _, rfl, rfl, Lib.hid rfl⟩
    case round =>
      obtain ⟨k, n, hk, hn, rfl, rfl, HK⟩ := hrel
      by_cases hlt : k < s.size
      · have hi0 : (0 : Int) ≤ (k : Int) := by omega
        have hi1 : (k : Int) < (s.size : Int) := by omega
        obtain ⟨d, hd⟩ : ∃ d, digU s[k] = d := ⟨_, rfl⟩
        have hidx := fun w => Tryz.strings_IndexByte ⟨#[48, 49, 50, 51, 52, 53, 54, 55, 56, 57, 65, 66, 67, 68, 69, 70]⟩ (s[k].toNat : Int) w
        have hdx := digIdx' s[k]
        have hd99 := digU_99 s[k]
        rw [hd] at hdx hd99
        have hkk := HK.out
        rw [str_get s k hlt, valGo_cons, hd] at hkk
        clear HK
        by_cases h99 : d = 99
        · rw [if_pos h99] at hdx
          simp only [hdx] at hidx
          rw [if_pos (by omega)] at hkk
          have HKK := Lib.hid hkk; clear hkk hdx hd99 h99 hd
          have HI := Lib.hid hidx; clear hidx
          go_wp2_with fail
          refine (HI.out _).mono ?_
          rintro e w1 ⟨rfl, rfl⟩
          go_wp2_with fail
          go_ret2
          exact ⟨by rw [← HR.out, HKK.out]; rfl, rfl⟩
        · have hd15 := hd99 h99
          rw [if_neg h99] at hdx
          simp only [hdx] at hidx
          have hd0 : (0 : Int) ≤ (d : Int) := by omega
          have hd1 : (d : Int) ≤ 15 := by omega
          have hnb : n * b ≤ 65535 * 16 := Nat.mul_le_mul hn hb2
          have hc : ((n * b : Nat) : Int) = (n : Int) * (b : Int) := by simp
          have hnb0 : (0 : Int) ≤ (n : Int) * (b : Int) := by omega
          have hnb1 : (n : Int) * (b : Int) ≤ 1048560 := by omega
          clear hdx hd99 h99 hd
          have HI := Lib.hid hidx; clear hidx
          by_cases hbd : b ≤ d
          · rw [if_pos hbd] at hkk
            have HKK := Lib.hid hkk; clear hkk
            have hbd' : (b : Int) ≤ (d : Int) := by omega
            clear hc
            go_wp2_with fail
            refine (HI.out _).mono ?_
            rintro e w1 ⟨rfl, rfl⟩
            go_wp2_with fail
            go_ret2
            exact ⟨by rw [← HR.out, HKK.out]; rfl, rfl⟩
          · rw [if_neg hbd] at hkk
            have hbd' : (d : Int) < (b : Int) := by omega
            by_cases hbig : 65535 < n * b + d
            · rw [if_pos hbig] at hkk
              have HKK := Lib.hid hkk; clear hkk
              have hbig' : (65535 : Int) < (n : Int) * (b : Int) + (d : Int) := by omega
              clear hc
              go_wp2_with fail
              refine (HI.out _).mono ?_
              rintro e w1 ⟨rfl, rfl⟩
              go_wp2_with fail
              go_ret2
              exact ⟨by rw [← HR.out, HKK.out]; rfl, rfl⟩
            · rw [if_neg hbig] at hkk
              have HKK := Lib.hid hkk; clear hkk
              have hbig' : (n : Int) * (b : Int) + (d : Int) ≤ 65535 := by omega
              have hcc : ((n * b + d : Nat) : Int) = (n : Int) * (b : Int) + (d : Int) := by omega
              have HC := Lib.hid hcc; clear hc hcc
              go_wp2_with fail
              refine (HI.out _).mono ?_
              rintro e w1 ⟨rfl, rfl⟩
              go_wp2_with fail
              go_round
              case rel => exact ⟨k + 1, n * b + d, by omega, by omega, by go_num, by rw [HC.out], HKK⟩
              case measure => simp [intOf]; omega
      · obtain rfl : k = s.size := by omega
        have hkk := HK.out
        rw [List.drop_of_length_le (by simp), valGo_nil] at hkk
        have HKK := Lib.hid hkk; clear hkk HK
        go_wp2_with fail
        go_ret2
        exact ⟨by rw [← HR.out, HKK.out]; rfl, rfl⟩
end Go.Proofs.YtpkbonfbehhbdaaGreatDoor

/- num: the ways to cut the digits out of a word. -/
namespace Go.Proofs.YtpkbonfbehhbdaaGreatDoor
open Go.RowKit Go.Sort

theorem upper_size (s : ByteArray) : (upper s).size = s.size := by
  show ((s.data.toList.map up).toArray).size = _
  simp
theorem mk_size (l : List UInt8) : (⟨l.toArray⟩ : ByteArray).size = l.length := by show l.toArray.size = _; simp
theorem mk_list (l : List UInt8) : (⟨l.toArray⟩ : ByteArray).data.toList = l := by simp
theorem trimPrefix_len (u p : List UInt8) : (Lib.trimPrefix u p).length ≤ u.length := by
  unfold Lib.trimPrefix; split
  · simp
  · exact Nat.le_refl _
theorem trimSuffix_len (u p : List UInt8) : (Lib.trimSuffix u p).length ≤ u.length := by
  unfold Lib.trimSuffix; split
  · simp
  · exact Nat.le_refl _

set_option maxHeartbeats 400000 in
theorem cut_same (s : ByteArray) (w : World) :
    Calls Tryz.prog 153 #[.string s] w fun e w' => e = .returned (.tuple #[.string s, .bool true]) ∧ w = w' := by
  go_enter Tryz.func153, Tryz.ntmps153
  go_wp2
  go_ret2
  exact ⟨rfl, rfl⟩

def cutP (s p : ByteArray) : ByteArray := ⟨(Lib.trimPrefix (upper s).data.toList p.data.toList).toArray⟩
def cutS (s p : ByteArray) : ByteArray := ⟨(Lib.trimSuffix (upper s).data.toList p.data.toList).toArray⟩
def hasP (s p : ByteArray) : Bool := Lib.hasPrefix (upper s).data.toList p.data.toList
def hasS (s p : ByteArray) : Bool := Lib.hasSuffix (upper s).data.toList p.data.toList

set_option maxHeartbeats 1000000 in
theorem cut_prefix (s p : ByteArray) (b : Nat) (w : World) (hs : s.size ≤ 1000000) (hb : b < w.heap.size) (hc : w.cell? ⟨b, 0, none⟩ = some (.string p)) :
    Calls Tryz.prog 161 #[.string s, .pointer (some ⟨b, 0, none⟩)] w fun e w' => e = .returned (.tuple #[.string (cutP s p), .bool (hasP s p)]) ∧ Below w.heap.size w w' := by
  have HU := Lib.hid (fun w => upper_any s w (by unfold maxLen; omega))
  have HC : Hid (∀ w, Calls Tryz.prog 162 #[.string (upper s), .string p] w fun e w' => e = .returned (.tuple #[.string (cutP s p), .bool (hasP s p)]) ∧ w' = w) := Lib.hid (fun w => Tryz.strings_CutPrefix (upper s) p w)
  generalize cutP s p = D at HC ⊢
  generalize hasP s p = B at HC ⊢
  go_enter Tryz.func161, Tryz.ntmps161
  go_wp2_with fail
  refine wp_region_gw (by kernel_rfl) (by kernel_rfl) ?_
  repeat (go_big_quiet_step (first | exact gw_quiet (HU.out _) | exact gw_quiet_same ((HC.out _).mono (fun e w' h => ⟨h.1, h.2.symm⟩))))
  refine wpQuiet_nil ?_
  rintro _ ⟨p2, rfl⟩
  go_wp2_with fail
  go_ret2
  exact ⟨rfl, below_gw w p2⟩

set_option maxHeartbeats 1000000 in
theorem cut_suffix (s p : ByteArray) (b : Nat) (w : World) (hs : s.size ≤ 1000000) (hb : b < w.heap.size) (hc : w.cell? ⟨b, 0, none⟩ = some (.string p)) :
    Calls Tryz.prog 163 #[.string s, .pointer (some ⟨b, 0, none⟩)] w fun e w' => e = .returned (.tuple #[.string (cutS s p), .bool (hasS s p)]) ∧ Below w.heap.size w w' := by
  have HU := Lib.hid (fun w => upper_any s w (by unfold maxLen; omega))
  have HC : Hid (∀ w, Calls Tryz.prog 164 #[.string (upper s), .string p] w fun e w' => e = .returned (.tuple #[.string (cutS s p), .bool (hasS s p)]) ∧ w' = w) := Lib.hid (fun w => Tryz.strings_CutSuffix (upper s) p w (by rw [upper_size]; omega))
  generalize cutS s p = D at HC ⊢
  generalize hasS s p = B at HC ⊢
  go_enter Tryz.func163, Tryz.ntmps163
  go_wp2_with fail
  refine wp_region_gw (by kernel_rfl) (by kernel_rfl) ?_
  repeat (go_big_quiet_step (first | exact gw_quiet (HU.out _) | exact gw_quiet_same ((HC.out _).mono (fun e w' h => ⟨h.1, h.2.symm⟩))))
  refine wpQuiet_nil ?_
  rintro _ ⟨p2, rfl⟩
  go_wp2_with fail
  go_ret2
  exact ⟨rfl, below_gw w p2⟩

/-- The suffix H behind a digit. -/
def cutH (s : ByteArray) : ByteArray := cutS s ⟨#[72]⟩
def hasH (s : ByteArray) : Bool := hasS s ⟨#[72]⟩ && (decide (0 < (cutH s).size) && decide ((bat (cutH s) 0).toNat ≤ 57))

set_option maxHeartbeats 1000000 in
theorem cut_hex (s : ByteArray) (w : World) (hs : s.size ≤ 1000000) :
    Calls Tryz.prog 155 #[.string s] w fun e w' => e = .returned (.tuple #[.string (cutH s), .bool (hasH s)]) ∧ Below w.heap.size w w' := by
  have HC := Lib.hid (fun (b : Nat) (w : World) => cut_suffix s ⟨#[72]⟩ b w hs)
  unfold hasH
  have hD : cutS s ⟨#[72]⟩ = cutH s := rfl
  rw [hD] at HC
  clear hD
  generalize cutH s = D at HC ⊢
  generalize hasS s ⟨#[72]⟩ = B at HC ⊢
  obtain ⟨R, hR⟩ : ∃ R, (B && (decide (0 < D.size) && decide ((bat D 0).toNat ≤ 57))) = R := ⟨_, rfl⟩
  rw [hR]
  have hmf : ∀ (fn : Fn) (first cap : Array Value) (w : World), (Instr.makeFunc fn first cap).run Tryz.prog w = .ok (.func fn first cap) w := fun _ _ _ _ => rfl
  have hcase : B = false ∨ (B = true ∧ D.size = 0) ∨ (B = true ∧ 0 < D.size ∧ (bat D 0).toNat ≤ 57) ∨ (B = true ∧ 0 < D.size ∧ ¬ (bat D 0).toNat ≤ 57) := by
    rcases B with _ | _
    · exact .inl rfl
    · by_cases h1 : D.size = 0
      · exact .inr (.inl ⟨rfl, h1⟩)
      · by_cases h2 : (bat D 0).toNat ≤ 57
        · exact .inr (.inr (.inl ⟨rfl, by omega, h2⟩))
        · exact .inr (.inr (.inr ⟨rfl, by omega, h2⟩))
  have he : D.toList.isEmpty = decide (D.size = 0) := by
    rw [ByteArray.toList_eq, show D.size = D.data.toList.length by simp]
    cases D.data.toList with
    | nil => rfl
    | cons a l => simp
  have he2 : (D.toList == []) = decide (D.size = 0) := by rw [← he]; cases D.toList <;> rfl
  rcases hcase with rfl | ⟨rfl, h1⟩ | ⟨rfl, h1, h2⟩ | ⟨rfl, h1, h2⟩
  · obtain rfl : false = R := by rw [← hR]; rfl
    clear hR he he2
    go_enter Tryz.func155, Tryz.ntmps155
    go_wp2_with (first | (go_at_call 156; go_in) | fail)
    refine (HC.out _ _ ?h1 ?h2).mono ?_
    case h1 => simp [go_sem]
    case h2 => simp [go_sem]
    rintro e w1 ⟨rfl, hb⟩
    obtain ⟨p1, rfl⟩ := gw_of_below hb
    clear hb
    go_wp2_with fail
    refine wp_region_gw (by kernel_rfl) (by kernel_rfl) ?_
    repeat (go_big_quiet_step (fail))
    refine wpQuiet_nil ?_
    rintro _ ⟨p2, rfl⟩
    go_wp2_with fail
    go_ret2
    exact ⟨rfl, by (repeat (first | exact Below.refl _ _ | refine Below.drew ?_ | (refine below_gw' ?_ (by first | omega | (simp [go_sem]; done) | (simp [go_sem]; omega)) _) | (refine Below.alloc ?_ (by first | omega | (simp [go_sem]; done) | (simp [go_sem]; omega)) _) | (refine Below.setCell ?_ (by first | omega | (simp [go_sem]; done) | (simp [go_sem]; omega)) _)))⟩
  · obtain rfl : false = R := by rw [← hR, decide_eq_false (show ¬ 0 < D.size by omega)]; rfl
    rw [decide_eq_true h1] at he he2
    clear hR h1
    go_enter Tryz.func155, Tryz.ntmps155
    go_wp2_with (first | (go_at_call 156; go_in) | fail)
    refine (HC.out _ _ ?h1 ?h2).mono ?_
    case h1 => simp [go_sem]
    case h2 => simp [go_sem]
    rintro e w1 ⟨rfl, hb⟩
    obtain ⟨p1, rfl⟩ := gw_of_below hb
    clear hb
    go_wp2_with fail
    refine wp_region_gw (by kernel_rfl) (by kernel_rfl) ?_
    repeat (go_big_quiet_step (fail))
    refine wpQuiet_nil ?_
    rintro _ ⟨p2, rfl⟩
    go_wp2_with fail
    go_ret2
    exact ⟨rfl, by (repeat (first | exact Below.refl _ _ | refine Below.drew ?_ | (refine below_gw' ?_ (by first | omega | (simp [go_sem]; done) | (simp [go_sem]; omega)) _) | (refine Below.alloc ?_ (by first | omega | (simp [go_sem]; done) | (simp [go_sem]; omega)) _) | (refine Below.setCell ?_ (by first | omega | (simp [go_sem]; done) | (simp [go_sem]; omega)) _)))⟩
  · obtain rfl : true = R := by rw [← hR, decide_eq_true h1, decide_eq_true h2]; rfl
    rw [decide_eq_false (by omega)] at he he2
    have h3 : (D[0].toNat : Int) ≤ 57 := by rw [bat_get D 0 h1]; omega
    clear hR h2
    go_enter Tryz.func155, Tryz.ntmps155
    go_wp2_with (first | (go_at_call 156; go_in) | fail)
    refine (HC.out _ _ ?h1 ?h2).mono ?_
    case h1 => simp [go_sem]
    case h2 => simp [go_sem]
    rintro e w1 ⟨rfl, hb⟩
    obtain ⟨p1, rfl⟩ := gw_of_below hb
    clear hb
    go_wp2_with fail
    refine wp_region_gw (by kernel_rfl) (by kernel_rfl) ?_
    repeat (go_big_quiet_step (fail))
    refine wpQuiet_nil ?_
    rintro _ ⟨p2, rfl⟩
    go_wp2_with fail
    go_ret2
    exact ⟨rfl, by (repeat (first | exact Below.refl _ _ | refine Below.drew ?_ | (refine below_gw' ?_ (by first | omega | (simp [go_sem]; done) | (simp [go_sem]; omega)) _) | (refine Below.alloc ?_ (by first | omega | (simp [go_sem]; done) | (simp [go_sem]; omega)) _) | (refine Below.setCell ?_ (by first | omega | (simp [go_sem]; done) | (simp [go_sem]; omega)) _)))⟩
  · obtain rfl : false = R := by rw [← hR, decide_eq_true h1, decide_eq_false h2]; rfl
    rw [decide_eq_false (by omega)] at he he2
    have h3 : ¬ (D[0].toNat : Int) ≤ 57 := by rw [bat_get D 0 h1]; omega
    clear hR h2
    go_enter Tryz.func155, Tryz.ntmps155
    go_wp2_with (first | (go_at_call 156; go_in) | fail)
    refine (HC.out _ _ ?h1 ?h2).mono ?_
    case h1 => simp [go_sem]
    case h2 => simp [go_sem]
    rintro e w1 ⟨rfl, hb⟩
    obtain ⟨p1, rfl⟩ := gw_of_below hb
    clear hb
    go_wp2_with fail
    refine wp_region_gw (by kernel_rfl) (by kernel_rfl) ?_
    repeat (go_big_quiet_step (fail))
    refine wpQuiet_nil ?_
    rintro _ ⟨p2, rfl⟩
    go_wp2_with fail
    go_ret2
    refine ⟨?_, by (repeat (first | exact Below.refl _ _ | refine Below.drew ?_ | (refine below_gw' ?_ (by first | omega | (simp [go_sem]; done) | (simp [go_sem]; omega)) _) | (refine Below.alloc ?_ (by first | omega | (simp [go_sem]; done) | (simp [go_sem]; omega)) _) | (refine Below.setCell ?_ (by first | omega | (simp [go_sem]; done) | (simp [go_sem]; omega)) _)))⟩
    show Ending.returned (.tuple #[.string D, .bool (decide ((D[0].toNat : Int) ≤ 57))]) = _
    rw [decide_eq_false (by omega)]
end Go.Proofs.YtpkbonfbehhbdaaGreatDoor
