/- Joined texts: Num16, Parse16. -/
import Derived.Test.YtnjpfhihbjihbaaGreatDoorS03
import Derived.Test.YtnjpfhihbjihbaaGreatDoorS04
import Derived.Deep.Cut
import Derived.Deep.CutRange
import Derived.Deep.DeepCutAuto
/- The reference's numbers: digit, value. -/
namespace Go.Proofs.YtnjpfhihbjihbaaGreatDoor
open Go.RowKit Go.Sort

theorem digU_up_val (c : UInt8) : (digU (up c) : Int) = if 48 ≤ (c.toNat : Int) ∧ (c.toNat : Int) ≤ 57 then (c.toNat : Int) - 48 else if 97 ≤ (c.toNat : Int) ∧ (c.toNat : Int) ≤ 102 then (c.toNat : Int) - 97 + 10 else if 65 ≤ (c.toNat : Int) ∧ (c.toNat : Int) ≤ 70 then (c.toNat : Int) - 65 + 10 else 99 := by
  have h := up_toNat c
  unfold digU
  repeat' split at h
  all_goals (repeat' split) <;> omega

set_option maxHeartbeats 400000 in
theorem digit01_any (c : UInt8) (w : World) :
    Calls Tryz.prog 137 #[.int .u8 (c.toNat : Int)] w fun e w' => e = .returned (.int .i64 (digU (up c))) ∧ w = w' := by
  rw [digU_up_val]
  have h1 : (c.toNat : Int) ≤ 255 := by have := c.toNat_lt; omega
  have h0 : 0 ≤ (c.toNat : Int) := by omega
  generalize (c.toNat : Int) = n at h0 h1
  go_enter Tryz.func137, Tryz.ntmps137
  go_wp2
  all_goals
    go_ret
    refine ⟨?_, rfl⟩
    congr 1
    repeat' split
    all_goals (simp only [Value.int.injEq, true_and]; omega)

theorem min_cast (n b d : Nat) : (if (1000000 : Int) < (n : Int) * (b : Int) + (d : Int) then (1000000 : Int) else (n : Int) * b + d) = ((min (n * b + d) 1000000 : Nat) : Int) := by
  have h : ((n * b : Nat) : Int) = (n : Int) * (b : Int) := by simp
  rw [← h]; split <;> omega
theorem digU_le (c : UInt8) : digU c ≤ 99 := by unfold digU; repeat' split
                                                all_goals omega
theorem upper_get (s : ByteArray) (k : Nat) (h : k < s.size) : (s.data.toList.map up).drop k = up s[k] :: (s.data.toList.map up).drop (k + 1) := by
  rw [List.drop_eq_getElem_cons (by simpa using h)]
  simp; rfl

set_option maxHeartbeats 1000000 in
theorem value01_any (s : ByteArray) (b : Nat) (w : World) (hs : s.size ≤ 1000000) (hb : 1 ≤ b) (hb2 : b ≤ 16) :
    Calls Tryz.prog 136 #[.string s, .int .i64 b] w fun e w' => e = .returned (.int .i64 (oI (valU b (upper s).data.toList))) ∧ w = w' := by
  obtain ⟨R, hR⟩ : ∃ R, oI (valU b (upper s).data.toList) = R := ⟨_, rfl⟩
  rw [hR]
  have hu : (upper s).data.toList = s.data.toList.map up := by unfold upper; simp
  rw [hu] at hR
  by_cases h0 : s.size = 0
  · have he : s.data.toList = [] := List.eq_nil_of_length_eq_zero (by simpa using h0)
    have he2 : s.toList = [] := by rw [ByteArray.toList_eq]; exact he
    have he3 : s.toList.isEmpty = true := by rw [he2]; rfl
    obtain rfl : -1 = R := by rw [← hR, he]; rfl
    clear hR hu
    go_enter Tryz.func136, Tryz.ntmps136
    go_wp2_with fail
    go_ret
    exact ⟨rfl, rfl⟩
  · have hne : s.data.toList ≠ [] := by intro h; apply h0; have := congrArg List.length h; simpa using this
    have hne2 : ¬ s.toList = [] := by rw [ByteArray.toList_eq]; exact hne
    have hne3 : s.toList.isEmpty = false := by simpa using hne2
    have hR2 : (match satGo b 0 (s.data.toList.map up) with | some m => if 65535 < m then (-1 : Int) else m | none => -1) = R := by
      rw [← hR]
      unfold valU
      rw [if_neg (by simpa using hne), sat_val b hb hb2 _ _ (by omega)]
      cases satGo b 0 (s.data.toList.map up) with
      | none => rfl
      | some m => simp only; split <;> rfl
    have HR := Lib.hid hR2; clear hR hu hR2 hne
    have hb0 : (1 : Int) ≤ (b : Int) := by omega
    have hb3 : (b : Int) ≤ 16 := by omega
    go_enter Tryz.func136, Tryz.ntmps136
    go_wp2_with fail
    go_loop [5, 6] (fun x i => ∃ k n : Nat, k ≤ s.size ∧ n ≤ 1000000 ∧ i = .int .i64 k ∧ x = .int .i64 n ∧ Hid (satGo b 0 (s.data.toList.map up) = satGo b n ((s.data.toList.map up).drop k))) (fun _ i => s.size - (intOf i).toNat)
    case atStart => exact ⟨0, 0, Nat.zero_le _, Nat.zero_le _, rfl, rfl, Lib.hid rfl⟩
    case round =>
      obtain ⟨k, n, hk, hn, rfl, rfl, HK⟩ := hrel
      by_cases hlt : k < s.size
      · have hi0 : (0 : Int) ≤ (k : Int) := by omega
        have hi1 : (k : Int) < (s.size : Int) := by omega
        obtain ⟨d, hd⟩ : ∃ d, digU (up s[k]) = d := ⟨_, rfl⟩
        have hd9 := digU_le (up s[k])
        have hdig := fun w => digit01_any s[k] w
        rw [hd] at hd9
        simp only [hd] at hdig
        have hd1 : (0 : Int) ≤ (d : Int) := by omega
        have hd2 : (d : Int) ≤ 99 := by omega
        have hnb : n * b ≤ 1000000 * 16 := Nat.mul_le_mul hn hb2
        have hnb0 : (0 : Int) ≤ (n : Int) * (b : Int) := by have : ((n * b : Nat) : Int) = (n : Int) * (b : Int) := by simp
                                                            omega
        have hnb1 : (n : Int) * (b : Int) ≤ 16000000 := by have : ((n * b : Nat) : Int) = (n : Int) * (b : Int) := by simp
                                                           omega
        have hkk := HK.out
        rw [upper_get s k hlt, satGo_cons] at hkk
        rw [hd] at hkk
        have HD := Lib.hid hd; clear hd
        have HDIG := Lib.hid hdig; clear hdig
        by_cases hbd : b ≤ d
        · rw [if_pos hbd] at hkk
          have HKK := Lib.hid hkk; clear hkk
          have hbd' : (b : Int) ≤ (d : Int) := by omega
          go_wp2_with fail
          refine (HDIG.out _).mono ?_
          rintro e w1 ⟨rfl, rfl⟩
          go_wp2_with fail
          go_ret
          exact ⟨by rw [← HR.out, HKK.out]; rfl, rfl⟩
        · rw [if_neg hbd] at hkk
          have HKK := Lib.hid hkk; clear hkk
          have hbd' : (d : Int) < (b : Int) := by omega
          go_wp2_with fail
          refine (HDIG.out _).mono ?_
          rintro e w1 ⟨rfl, rfl⟩
          go_wp2_with fail
          go_round
          case rel => exact ⟨k + 1, min (n * b + d) 1000000, by omega, by omega, by go_num, by rw [min_cast], HKK⟩
          case measure => simp [intOf]; omega
      · obtain rfl : k = s.size := by omega
        have hkk := HK.out
        rw [List.drop_of_length_le (by simp), satGo_nil] at hkk
        have HKK := Lib.hid hkk; clear hkk HK
        by_cases h6 : 65535 < n
        · have h6' : (65535 : Int) < (n : Int) := by omega
          go_wp2_with fail
          go_ret
          exact ⟨by rw [← HR.out, HKK.out]; simp only; rw [if_pos h6]; rfl, rfl⟩
        · have h6' : ¬ (65535 : Int) < (n : Int) := by omega
          go_wp2_with fail
          go_ret
          exact ⟨by rw [← HR.out, HKK.out]; simp only; rw [if_neg h6]; rfl, rfl⟩

theorem value01_2 (s : ByteArray) (w : World) (hs : s.size ≤ 1000000) :
    Calls Tryz.prog 136 #[.string s, .int .i64 2] w fun e w' => e = .returned (.int .i64 (oI (valU 2 (upper s).data.toList))) ∧ w = w' := value01_any s 2 w hs (by omega) (by omega)

theorem value01_10 (s : ByteArray) (w : World) (hs : s.size ≤ 1000000) :
    Calls Tryz.prog 136 #[.string s, .int .i64 10] w fun e w' => e = .returned (.int .i64 (oI (valU 10 (upper s).data.toList))) ∧ w = w' := value01_any s 10 w hs (by omega) (by omega)

theorem value01_16 (s : ByteArray) (w : World) (hs : s.size ≤ 1000000) :
    Calls Tryz.prog 136 #[.string s, .int .i64 16] w fun e w' => e = .returned (.int .i64 (oI (valU 16 (upper s).data.toList))) ∧ w = w' := value01_any s 16 w hs (by omega) (by omega)
end Go.Proofs.YtnjpfhihbjihbaaGreatDoor

/- The reference's Parse of a number. (Written by wip/gen_parse16.py.) -/
namespace Go.Proofs.YtnjpfhihbjihbaaGreatDoor
open Go.RowKit Go.Sort



set_option maxHeartbeats 4000000 in
set_option maxRecDepth 100000 in
theorem parse01_walk (s : ByteArray) (w : World) (hs : s.size ≤ 1000000) :
    Calls Tryz.prog 94 #[.string s] w fun e w' => e = .returned (.tuple #[.int .i64 (if px6 s < 0 then 0 else px6 s), .bool (decide (0 ≤ px6 s))]) ∧ w = w' := by
  have HV := Lib.hid (fun w => value01_10 s w hs)
  obtain ⟨x1, hx1⟩ : ∃ x, oI (valU 10 (upper s).data.toList) = x := ⟨_, rfl⟩
  rw [hx1] at HV
  have hb : ∀ (i : Nat) (h : i < s.size), s[i] = bat s i := bat_get s
  have HB := Lib.hid hb; clear hb
  have HX1 : Hid (px1 s = x1) := Lib.hid hx1
  clear hx1
  obtain ⟨b1, hb1⟩ : ∃ b, pc1 s = b := ⟨_, rfl⟩
  obtain ⟨x2, hx2⟩ : ∃ x, px2 s = x := ⟨_, rfl⟩
  obtain ⟨b2, hb2⟩ : ∃ b, pc2 s = b := ⟨_, rfl⟩
  obtain ⟨x3, hx3⟩ : ∃ x, px3 s = x := ⟨_, rfl⟩
  obtain ⟨b3, hb3⟩ : ∃ b, pc3 s = b := ⟨_, rfl⟩
  obtain ⟨x4, hx4⟩ : ∃ x, px4 s = x := ⟨_, rfl⟩
  obtain ⟨b4, hb4⟩ : ∃ b, pc4 s = b := ⟨_, rfl⟩
  obtain ⟨x5, hx5⟩ : ∃ x, px5 s = x := ⟨_, rfl⟩
  obtain ⟨b5, hb5⟩ : ∃ b, pc5 s = b := ⟨_, rfl⟩
  obtain ⟨x6, hx6⟩ : ∃ x, px6 s = x := ⟨_, rfl⟩
  rw [hx6]
  have HB1 := Lib.hid hb1; clear hb1
  have HX2 := Lib.hid hx2; clear hx2
  have HB2 := Lib.hid hb2; clear hb2
  have HX3 := Lib.hid hx3; clear hx3
  have HB3 := Lib.hid hb3; clear hb3
  have HX4 := Lib.hid hx4; clear hx4
  have HB4 := Lib.hid hb4; clear hb4
  have HX5 := Lib.hid hx5; clear hx5
  have HB5 := Lib.hid hb5; clear hb5
  have HX6 := Lib.hid hx6; clear hx6
  go_enter Tryz.func94, Tryz.ntmps94
  go_wp2_with fail
  refine (HV.out _).mono ?_
  rintro e w1 ⟨rfl, rfl⟩
  go_upto_region 3 with fail
  go_cut [26] (fun t wx => t = .bool b1 ∧ w = wx)
  case first =>
    go_wp2_with fail
    all_goals
      go_meet
      case rel =>
        refine ⟨?_, rfl⟩
        have g := HB.out
        have e := HB1.out
        unfold pc1 at e
        simp only [g] at *
        subst e
        congr 1
        first | (simp [*]; done) | (simp [*]; omega) | (rw [Bool.eq_iff_iff]; simp [*]; done) | (rw [Bool.eq_iff_iff]; simp [*]; omega)
  case rest =>
  obtain ⟨rfl, rfl⟩ := hcut
  go_upto_if 26 with fail
  go_cut [5] (fun t wx => t = .int .i64 x2 ∧ w = wx)
  case first =>
    rcases hbb : b1 with _ | _
    · go_wp2_with fail
      go_meet
      case rel => exact ⟨by rw [← HX2.out]; unfold px2; rw [HB1.out, hbb, HX1.out]; rfl, rfl⟩
    · subst hbb
      have hlen : 1 < s.size := by have h := HB1.out; unfold pc1 at h; simp at h; omega
      have hlen' : (1 : Int) < (s.size : Int) := by omega
      have HVV := Lib.hid (fun w => value01_16 (s.extract 2 s.size) w (by rw [ByteArray.size_extract]; omega))
      go_wp2_with fail
      refine (HVV.out _).mono ?_
      rintro e w1 ⟨rfl, rfl⟩
      go_wp2_with fail
      all_goals
        go_meet
        case rel =>
          refine ⟨?_, rfl⟩
          congr 1
          rw [← HX2.out]
          unfold px2
          rw [HB1.out, HX1.out, if_pos rfl]
          omega
  case rest =>
  obtain ⟨rfl, rfl⟩ := hcut
  go_upto_region 5 with fail
  go_cut [38] (fun t wx => t = .bool b2 ∧ w = wx)
  case first =>
    go_wp2_with fail
    all_goals
      go_meet
      case rel =>
        refine ⟨?_, rfl⟩
        have g := HB.out
        have e := HB2.out
        unfold pc2 at e
        simp only [g] at *
        subst e
        congr 1
        first | (simp [*]; done) | (simp [*]; omega) | (rw [Bool.eq_iff_iff]; simp [*]; done) | (rw [Bool.eq_iff_iff]; simp [*]; omega)
  case rest =>
  obtain ⟨rfl, rfl⟩ := hcut
  go_upto_if 38 with fail
  go_cut [5] (fun t wx => t = .int .i64 x3 ∧ w = wx)
  case first =>
    rcases hbb : b2 with _ | _
    · go_wp2_with fail
      go_meet
      case rel => exact ⟨by rw [← HX3.out]; unfold px3; rw [HB2.out, hbb, HX2.out]; rfl, rfl⟩
    · subst hbb
      have hlen : 1 < s.size := by have h := HB2.out; unfold pc2 at h; simp at h; omega
      have hlen' : (1 : Int) < (s.size : Int) := by omega
      have HVV := Lib.hid (fun w => value01_16 (s.extract 1 s.size) w (by rw [ByteArray.size_extract]; omega))
      go_wp2_with fail
      refine (HVV.out _).mono ?_
      rintro e w1 ⟨rfl, rfl⟩
      go_wp2_with fail
      all_goals
        go_meet
        case rel =>
          refine ⟨?_, rfl⟩
          congr 1
          rw [← HX3.out]
          unfold px3
          rw [HB2.out, HX2.out, if_pos rfl]
          omega
  case rest =>
  obtain ⟨rfl, rfl⟩ := hcut
  go_upto_region 7 with fail
  go_cut [50] (fun t wx => t = .bool b3 ∧ w = wx)
  case first =>
    go_wp2_with fail
    all_goals
      go_meet
      case rel =>
        refine ⟨?_, rfl⟩
        have g := HB.out
        have e := HB3.out
        unfold pc3 at e
        simp only [g] at *
        subst e
        congr 1
        first | (simp [*]; done) | (simp [*]; omega) | (rw [Bool.eq_iff_iff]; simp [*]; done) | (rw [Bool.eq_iff_iff]; simp [*]; omega)
  case rest =>
  obtain ⟨rfl, rfl⟩ := hcut
  go_upto_if 50 with fail
  go_cut [5] (fun t wx => t = .int .i64 x4 ∧ w = wx)
  case first =>
    rcases hbb : b3 with _ | _
    · go_wp2_with fail
      go_meet
      case rel => exact ⟨by rw [← HX4.out]; unfold px4; rw [HB3.out, hbb, HX3.out]; rfl, rfl⟩
    · subst hbb
      have hlen : 1 < s.size := by have h := HB3.out; unfold pc3 at h; simp at h; omega
      have hlen' : (1 : Int) < (s.size : Int) := by omega
      have HVV := Lib.hid (fun w => value01_2 (s.extract 1 s.size) w (by rw [ByteArray.size_extract]; omega))
      go_wp2_with fail
      refine (HVV.out _).mono ?_
      rintro e w1 ⟨rfl, rfl⟩
      go_wp2_with fail
      all_goals
        go_meet
        case rel =>
          refine ⟨?_, rfl⟩
          congr 1
          rw [← HX4.out]
          unfold px4
          rw [HB3.out, HX3.out, if_pos rfl]
          omega
  case rest =>
  obtain ⟨rfl, rfl⟩ := hcut
  go_upto_region 9 with fail
  go_cut [77] (fun t wx => t = .bool b4 ∧ w = wx)
  case first =>
    go_wp2_with (refine (digit01_any _ _).mono ?_; rintro e w1 ⟨rfl, rfl⟩)
    all_goals
      go_meet
      case rel =>
        refine ⟨?_, rfl⟩
        have g := HB.out
        have e := HB4.out
        unfold pc4 at e
        simp only [g] at *
        subst e
        congr 1
        first | (simp [*]; done) | (simp [*]; omega) | (rw [Bool.eq_iff_iff]; simp [*]; done) | (rw [Bool.eq_iff_iff]; simp [*]; omega)
  case rest =>
  obtain ⟨rfl, rfl⟩ := hcut
  go_upto_if 77 with fail
  go_cut [5] (fun t wx => t = .int .i64 x5 ∧ w = wx)
  case first =>
    rcases hbb : b4 with _ | _
    · go_wp2_with fail
      go_meet
      case rel => exact ⟨by rw [← HX5.out]; unfold px5; rw [HB4.out, hbb, HX4.out]; rfl, rfl⟩
    · subst hbb
      have hlen : 1 < s.size := by have h := HB4.out; unfold pc4 at h; simp at h; omega
      have hlen' : (1 : Int) < (s.size : Int) := by omega
      have HVV := Lib.hid (fun w => value01_16 (s.extract 0 (s.size - 1)) w (by rw [ByteArray.size_extract]; omega))
      go_wp2_with fail
      refine (HVV.out _).mono ?_
      rintro e w1 ⟨rfl, rfl⟩
      go_wp2_with fail
      all_goals
        go_meet
        case rel =>
          refine ⟨?_, rfl⟩
          congr 1
          rw [← HX5.out]
          unfold px5
          rw [HB4.out, HX4.out, if_pos rfl]
          omega
  case rest =>
  obtain ⟨rfl, rfl⟩ := hcut
  go_upto_region 11 with fail
  go_cut [100] (fun t wx => t = .bool b5 ∧ w = wx)
  case first =>
    go_wp2_with fail
    all_goals
      go_meet
      case rel =>
        refine ⟨?_, rfl⟩
        have g := HB.out
        have e := HB5.out
        unfold pc5 at e
        simp only [g] at *
        subst e
        congr 1
        first | (simp [*]; done) | (simp [*]; omega) | (rw [Bool.eq_iff_iff]; simp [*]; done) | (rw [Bool.eq_iff_iff]; simp [*]; omega)
  case rest =>
  obtain ⟨rfl, rfl⟩ := hcut
  go_upto_if 100 with fail
  go_cut [5] (fun t wx => t = .int .i64 x6 ∧ w = wx)
  case first =>
    rcases hbb : b5 with _ | _
    · go_wp2_with fail
      go_meet
      case rel => exact ⟨by rw [← HX6.out]; unfold px6; rw [HB5.out, hbb, HX5.out]; rfl, rfl⟩
    · subst hbb
      have hlen : 1 < s.size := by have h := HB5.out; unfold pc5 at h; simp at h; omega
      have hlen' : (1 : Int) < (s.size : Int) := by omega
      have HVV := Lib.hid (fun w => value01_2 (s.extract 0 (s.size - 1)) w (by rw [ByteArray.size_extract]; omega))
      go_wp2_with fail
      refine (HVV.out _).mono ?_
      rintro e w1 ⟨rfl, rfl⟩
      go_wp2_with fail
      all_goals
        go_meet
        case rel =>
          refine ⟨?_, rfl⟩
          congr 1
          rw [← HX6.out]
          unfold px6
          rw [HB5.out, HX5.out, if_pos rfl]
          omega
  case rest =>
  obtain ⟨rfl, rfl⟩ := hcut
  go_wp2_with fail
  all_goals
    go_ret2
    exact ⟨rfl, rfl⟩

/-- breadboardref01.Parse. -/
theorem parse01_any (s : ByteArray) (w : World) (hs : s.size ≤ 1000000) :
    Calls Tryz.prog 94 #[.string s] w fun e w' => e = .returned (.tuple #[.int .i64 (numR s).1, .bool (numR s).2]) ∧ w = w' := by
  have h := parse01_walk s w hs
  rw [px6_eq] at h
  unfold numR
  cases hn : numP s with
  | none => rw [hn] at h; exact h
  | some n =>
    rw [hn, oI_some, if_neg (by omega), decide_eq_true (by omega)] at h
    exact h
end Go.Proofs.YtnjpfhihbjihbaaGreatDoor
