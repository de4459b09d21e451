/- Joined texts: Lex16b, Lex16c. -/
import Derived.Test.YtpkbonfbehhbdaaGreatDoorE14
import Derived.Test.YtpkbonfbehhbdaaGreatDoorE24
/- The reference's lexer: words. -/
namespace Go.Proofs.YtpkbonfbehhbdaaGreatDoor
open Go.RowKit Go.Sort

theorem sub_len (s : ByteArray) (i j : Nat) : (sub s i j).size ≤ s.size := by
  unfold sub; rw [ByteArray.size_extract]; omega

set_option maxHeartbeats 400000 in
set_option maxRecDepth 100000 in
theorem word16_any (s : ByteArray) (i : Nat) (w : World) (hi : i ≤ s.size) (hs : s.size ≤ 1000000) :
    Calls Tryz.prog 92 #[.string s, .int .i64 i] w fun e w' => e = .returned (.int .i64 (wordEnd s i : Nat)) ∧ Below w.heap.size w w' := by
  by_cases hlt : i < s.size
  · have hi0 : (0 : Int) ≤ (i : Int) := by omega
    have hi1 : (i : Int) < (s.size : Int) := by omega
    have hl := fun w => letter16_any s[i] w
    rcases hb : isLet s[i] with _ | _
    · have hr : wordEnd s i = i := by unfold wordEnd; rw [dif_pos hlt, if_neg (by rw [hb]; simp)]
      rw [hr]; rw [hb] at hl
      have HL := Lib.hid hl; clear hl hb hr
      go_enter Tryz.func92, Tryz.ntmps92
      go_wp2_with fail
      refine (HL.out _).mono ?_
      rintro e w1 ⟨rfl, rfl⟩
      go_wp2_with fail
      go_ret
      exact ⟨rfl, Below.refl _ _⟩
    · rw [hb] at hl
      obtain ⟨m, hm⟩ : ∃ m, runEnd s i = m := ⟨_, rfl⟩
      have hm1 := runEnd_ge s i
      have hm2 := runEnd_le s i hi
      have hrun := fun w => run16_any s i w hi hs
      rw [hm] at hm1 hm2
      simp only [hm] at hrun
      have hm3 : (i : Int) ≤ (m : Int) := by omega
      have hm4 : (m : Int) ≤ (s.size : Int) := by omega
      have hwe : wordEnd s i = (if h2 : m < s.size then (if (upper (sub s i m)).toList = [65, 70] ∧ s[m] = 39 then m + 1 else m) else m) := by
        unfold wordEnd; rw [dif_pos hlt, if_pos hb]; subst hm; rfl
      rw [hwe]
      obtain ⟨R, hR⟩ : ∃ R, (if h2 : m < s.size then (if (upper (sub s i m)).toList = [65, 70] ∧ s[m] = 39 then m + 1 else m) else m) = R := ⟨_, rfl⟩
      rw [hR]
      have HR := Lib.hid hR; clear hR
      have hub := sub_len s i m
      have HUP := Lib.hid (fun w => rupper_any (sub s i m) w (by omega))
      have HL := Lib.hid hl; clear hl hb hwe hm
      have HRUN := Lib.hid hrun; clear hrun
      go_enter Tryz.func92, Tryz.ntmps92
      go_wp2_with fail
      refine (HL.out _).mono ?_
      rintro e w1 ⟨rfl, rfl⟩
      go_wp2_with fail
      refine (HRUN.out _).mono ?_
      rintro e w1 ⟨rfl, rfl⟩
      go_wp2_with fail
      refine (HUP.out _).mono ?_
      rintro e w1 ⟨rfl, hb⟩
      obtain ⟨p1, rfl⟩ := gw_of_below hb
      clear hb
      rcases hAF : ((upper (sub s i m)).toList == [65, 70]) with _ | _
      · have hne : ¬ ((upper (sub s i m)).toList = [65, 70]) := by simpa using hAF
        have hres : R = m := by
          rw [← HR.out]
          split
          · rw [if_neg (fun h => hne h.1)]
          · rfl
        have HRES := Lib.hid hres; clear hres hne
        go_wp2_with fail
        go_ret
        exact ⟨by rw [HRES.out]; rfl, by (repeat (first | exact Below.refl _ _ | refine Below.drew ?_ | (refine below_gw' ?_ (by first | omega | (simp [go_sem]; done) | (simp [go_sem]; omega)) _) | (refine Below.alloc ?_ (by first | omega | (simp [go_sem]; done) | (simp [go_sem]; omega)) _) | (refine Below.setCell ?_ (by first | omega | (simp [go_sem]; done) | (simp [go_sem]; omega)) _)))⟩
      · have he : (upper (sub s i m)).toList = [65, 70] := by simpa using hAF
        by_cases h2 : m < s.size
        · have h3 : (m : Int) < (s.size : Int) := by omega
          have h4 : (0 : Int) ≤ (m : Int) := by omega
          by_cases hq : (s[m].toNat : Int) = 39
          · have hres : R = m + 1 := by
              rw [← HR.out]
              rw [dif_pos h2, if_pos ⟨he, UInt8.toNat_inj.1 (by show s[m].toNat = 39; omega)⟩]
            have HRES := Lib.hid hres; clear hres he
            go_wp2_with fail
            go_ret
            exact ⟨by rw [HRES.out]; rfl, by (repeat (first | exact Below.refl _ _ | refine Below.drew ?_ | (refine below_gw' ?_ (by first | omega | (simp [go_sem]; done) | (simp [go_sem]; omega)) _) | (refine Below.alloc ?_ (by first | omega | (simp [go_sem]; done) | (simp [go_sem]; omega)) _) | (refine Below.setCell ?_ (by first | omega | (simp [go_sem]; done) | (simp [go_sem]; omega)) _)))⟩
          · have hres : R = m := by
              rw [← HR.out]
              rw [dif_pos h2, if_neg (fun h => hq (by rw [h.2]; rfl))]
            have HRES := Lib.hid hres; clear hres he
            go_wp2_with fail
            go_ret
            exact ⟨by rw [HRES.out]; rfl, by (repeat (first | exact Below.refl _ _ | refine Below.drew ?_ | (refine below_gw' ?_ (by first | omega | (simp [go_sem]; done) | (simp [go_sem]; omega)) _) | (refine Below.alloc ?_ (by first | omega | (simp [go_sem]; done) | (simp [go_sem]; omega)) _) | (refine Below.setCell ?_ (by first | omega | (simp [go_sem]; done) | (simp [go_sem]; omega)) _)))⟩
        · have h3 : ¬ (m : Int) < (s.size : Int) := by omega
          have hres : R = m := by
            rw [← HR.out]
            rw [dif_neg h2]
          have HRES := Lib.hid hres; clear hres he
          go_wp2_with fail
          go_ret
          exact ⟨by rw [HRES.out]; rfl, by (repeat (first | exact Below.refl _ _ | refine Below.drew ?_ | (refine below_gw' ?_ (by first | omega | (simp [go_sem]; done) | (simp [go_sem]; omega)) _) | (refine Below.alloc ?_ (by first | omega | (simp [go_sem]; done) | (simp [go_sem]; omega)) _) | (refine Below.setCell ?_ (by first | omega | (simp [go_sem]; done) | (simp [go_sem]; omega)) _)))⟩
  · have hr : wordEnd s i = i := by unfold wordEnd; rw [dif_neg hlt]
    rw [hr]
    have hi1 : ¬ (i : Int) < (s.size : Int) := by omega
    have hi2 : (s.size : Int) ≤ (i : Int) := by omega
    clear hr
    go_enter Tryz.func92, Tryz.ntmps92
    go_wp2_with fail
    go_ret
    exact ⟨rfl, Below.refl _ _⟩
end Go.Proofs.YtpkbonfbehhbdaaGreatDoor

/- The reference's lexer: signs. (Written by wip/gen_sign16.py.) -/
namespace Go.Proofs.YtpkbonfbehhbdaaGreatDoor
open Go.RowKit Go.Sort

theorem signs1_at (q : Nat) (h : q < 14) : signs1[q]? = some ((⟨#[44, 40, 41, 43, 45, 42, 47, 38, 124, 94, 126, 58, 61, 36]⟩ : ByteArray)[q]'h) := by
  show (⟨#[44, 40, 41, 43, 45, 42, 47, 38, 124, 94, 126, 58, 61, 36]⟩ : ByteArray).data.toList[q]? = _
  rw [List.getElem?_eq_getElem (by simpa using h)]
  simp
  rfl
set_option maxHeartbeats 1000000 in
set_option maxRecDepth 100000 in
theorem sign16_any (s : ByteArray) (i : Nat) (w : World) (hi : i < s.size) (hs : s.size ≤ 1000000) :
    Calls Tryz.prog 97 #[.string s, .int .i64 i] w fun e w' => e = .returned (.int .i64 (signLen s i : Nat)) ∧ Below w.heap.size w w' := by
  obtain ⟨R, hR⟩ : ∃ R, signLen s i = R := ⟨_, rfl⟩
  rw [hR]
  unfold signLen at hR
  rw [dif_pos hi] at hR
  have HR := Lib.hid hR; clear hR
  have hi0 : (0 : Int) ≤ (i : Int) := by omega
  have hi1 : (i : Int) < (s.size : Int) := by omega
  by_cases h2 : i + 1 < s.size
  · have h3 : (i : Int) + 1 < (s.size : Int) := by omega
    have h4 : (i : Int) + 2 ≤ (s.size : Int) := by omega
    have h5 : (i : Int) ≤ (i : Int) + 2 := by omega
    rcases hq : ((s.extract i (i + 2)).toList == [60, 60]) with _ | _
    · rcases hq2 : ((s.extract i (i + 2)).toList == [62, 62]) with _ | _
      · have hres : R = if s[i] ∈ signs1 then 1 else 0 := by
          rw [← HR.out, if_neg]
          rintro ⟨_, h | h⟩
          · rw [h] at hq; cases hq
          · rw [h] at hq2; cases hq2
        have HRES := Lib.hid hres; clear hres HR
        go_enter Tryz.func97, Tryz.ntmps97
        go_wp2_with fail
        go_loopw [6] (fun v wr => ∃ q : Nat, q ≤ 14 ∧ v = .int .i64 q ∧ Hid (s[i] ∉ signs1.take q) ∧ Below w.heap.size w wr) (fun v _ => 14 - (intOf v).toNat)
        case atStart => exact ⟨0, Nat.zero_le _, rfl, Lib.hid (by simp), Below.refl _ _⟩
        case round =>
          obtain ⟨q, hq, rfl, HN, hbel⟩ := hrel
          have HBEL := Lib.hid hbel; clear hbel
          by_cases hlt : q < 14
          · have hA : q < (⟨#[44, 40, 41, 43, 45, 42, 47, 38, 124, 94, 126, 58, 61, 36]⟩ : ByteArray).size := hlt
            have hi2 : (0 : Int) ≤ (q : Int) := by omega
            have hi3 : (q : Int) < 14 := by omega
            have hget : signs1[q]? = some ((⟨#[44, 40, 41, 43, 45, 42, 47, 38, 124, 94, 126, 58, 61, 36]⟩ : ByteArray)[q]) := signs1_at q hlt
            rcases he : ((s[i].toNat : Int) == (((⟨#[44, 40, 41, 43, 45, 42, 47, 38, 124, 94, 126, 58, 61, 36]⟩ : ByteArray)[q]).toNat : Int)) with _ | _
            · have hno : s[i] ∉ signs1.take (q + 1) := by
                have h1 := HN.out
                rw [List.take_add_one, hget]
                intro hm
                rcases List.mem_append.1 hm with hm | hm
                · exact h1 hm
                · rw [Option.toList_some, List.mem_singleton] at hm
                  rw [← hm] at he
                  simp at he
              have HNO := Lib.hid hno; clear hno hget
              go_wp2_with fail
              go_region
              all_goals
                go_wp2_with fail
                go_roundw
              case rel => exact ⟨q + 1, by omega, by go_num, HNO, HBEL.out.drew⟩
              case measure => simp [intOf]; omega
            · have hmem : s[i] ∈ signs1 := by
                have : s[i] = (⟨#[44, 40, 41, 43, 45, 42, 47, 38, 124, 94, 126, 58, 61, 36]⟩ : ByteArray)[q] := UInt8.toNat_inj.1 (by have := eq_of_beq he; omega)
                rw [this]; exact List.mem_of_getElem? hget
              have HMEM := Lib.hid hmem; clear hmem hget
              go_wp2_with fail
              go_region
              all_goals
                go_wp2_with fail
                go_ret
                exact ⟨by rw [HRES.out, if_pos HMEM.out]; rfl, HBEL.out.drew⟩
          · obtain rfl : q = 14 := by omega
            have hno : s[i] ∉ signs1 := by have := HN.out; rwa [show signs1.take 14 = signs1 from rfl] at this
            have HNO := Lib.hid hno; clear hno
            go_wp2_with fail
            go_ret
            exact ⟨by rw [HRES.out, if_neg HNO.out]; rfl, HBEL.out⟩
      · have hres : R = 2 := by rw [← HR.out, if_pos ⟨h2, .inr (by simpa using hq2)⟩]
        have HRES := Lib.hid hres; clear hres HR
        go_enter Tryz.func97, Tryz.ntmps97
        go_wp2_with fail
        go_ret
        exact ⟨by rw [HRES.out]; rfl, Below.refl _ _⟩
    · have hres : R = 2 := by rw [← HR.out, if_pos ⟨h2, .inl (by simpa using hq)⟩]
      have HRES := Lib.hid hres; clear hres HR
      go_enter Tryz.func97, Tryz.ntmps97
      go_wp2_with fail
      go_ret
      exact ⟨by rw [HRES.out]; rfl, Below.refl _ _⟩
  · have h3 : ¬ (i : Int) + 1 < (s.size : Int) := by omega
    have hres : R = if s[i] ∈ signs1 then 1 else 0 := by rw [← HR.out, if_neg (fun h => h2 h.1)]
    have HRES := Lib.hid hres; clear hres HR
    go_enter Tryz.func97, Tryz.ntmps97
    go_wp2_with fail
    go_loopw [6] (fun v wr => ∃ q : Nat, q ≤ 14 ∧ v = .int .i64 q ∧ Hid (s[i] ∉ signs1.take q) ∧ Below w.heap.size w wr) (fun v _ => 14 - (intOf v).toNat)
    case atStart => exact ⟨0, Nat.zero_le _, rfl, Lib.hid (by simp), Below.refl _ _⟩
    case round =>
      obtain ⟨q, hq, rfl, HN, hbel⟩ := hrel
      have HBEL := Lib.hid hbel; clear hbel
      by_cases hlt : q < 14
      · have hA : q < (⟨#[44, 40, 41, 43, 45, 42, 47, 38, 124, 94, 126, 58, 61, 36]⟩ : ByteArray).size := hlt
        have hi2 : (0 : Int) ≤ (q : Int) := by omega
        have hi3 : (q : Int) < 14 := by omega
        have hget : signs1[q]? = some ((⟨#[44, 40, 41, 43, 45, 42, 47, 38, 124, 94, 126, 58, 61, 36]⟩ : ByteArray)[q]) := signs1_at q hlt
        rcases he : ((s[i].toNat : Int) == (((⟨#[44, 40, 41, 43, 45, 42, 47, 38, 124, 94, 126, 58, 61, 36]⟩ : ByteArray)[q]).toNat : Int)) with _ | _
        · have hno : s[i] ∉ signs1.take (q + 1) := by
            have h1 := HN.out
            rw [List.take_add_one, hget]
            intro hm
            rcases List.mem_append.1 hm with hm | hm
            · exact h1 hm
            · rw [Option.toList_some, List.mem_singleton] at hm
              rw [← hm] at he
              simp at he
          have HNO := Lib.hid hno; clear hno hget
          go_wp2_with fail
          go_region
          all_goals
            go_wp2_with fail
            go_roundw
          case rel => exact ⟨q + 1, by omega, by go_num, HNO, HBEL.out.drew⟩
          case measure => simp [intOf]; omega
        · have hmem : s[i] ∈ signs1 := by
            have : s[i] = (⟨#[44, 40, 41, 43, 45, 42, 47, 38, 124, 94, 126, 58, 61, 36]⟩ : ByteArray)[q] := UInt8.toNat_inj.1 (by have := eq_of_beq he; omega)
            rw [this]; exact List.mem_of_getElem? hget
          have HMEM := Lib.hid hmem; clear hmem hget
          go_wp2_with fail
          go_region
          all_goals
            go_wp2_with fail
            go_ret
            exact ⟨by rw [HRES.out, if_pos HMEM.out]; rfl, HBEL.out.drew⟩
      · obtain rfl : q = 14 := by omega
        have hno : s[i] ∉ signs1 := by have := HN.out; rwa [show signs1.take 14 = signs1 from rfl] at this
        have HNO := Lib.hid hno; clear hno
        go_wp2_with fail
        go_ret
        exact ⟨by rw [HRES.out, if_neg HNO.out]; rfl, HBEL.out⟩
end Go.Proofs.YtpkbonfbehhbdaaGreatDoor
