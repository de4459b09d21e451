/- Joined texts: Apply17, Fits, Apply, EvalV. -/
import Derived.Test.YtnjpfhihbjihbaaGreatDoorS01
import Derived.Test.YtnjpfhihbjihbaaGreatDoorS17
import Derived.Deep.RegionHeld3
/- breadboardref17.apply. -/
namespace Go.Proofs.YtnjpfhihbjihbaaGreatDoor
open Go.RowKit Go.Sort

theorem op_of_idx {op : ByteArray} {i : Nat} (h : opIdx op = some i) : (i = 0 ∧ op = ⟨#[124]⟩) ∨ (i = 1 ∧ op = ⟨#[94]⟩) ∨ (i = 2 ∧ op = ⟨#[38]⟩) ∨ (i = 3 ∧ op = ⟨#[60, 60]⟩) ∨ (i = 4 ∧ op = ⟨#[62, 62]⟩) ∨ (i = 5 ∧ op = ⟨#[43]⟩) ∨ (i = 6 ∧ op = ⟨#[45]⟩) ∨ (i = 7 ∧ op = ⟨#[42]⟩) ∨ (i = 8 ∧ op = ⟨#[47]⟩) ∨ (i = 9 ∧ op = ⟨#[77, 79, 68]⟩) := by
  unfold opIdx at h
  simp only [bbeq, decide_eq_true_eq] at h
  by_cases h0 : op = ⟨#[124]⟩
  · rw [if_pos h0] at h; cases h; simp [h0]
  rw [if_neg h0] at h
  by_cases h1 : op = ⟨#[94]⟩
  · rw [if_pos h1] at h; cases h; simp [h1]
  rw [if_neg h1] at h
  by_cases h2 : op = ⟨#[38]⟩
  · rw [if_pos h2] at h; cases h; simp [h2]
  rw [if_neg h2] at h
  by_cases h3 : op = ⟨#[60, 60]⟩
  · rw [if_pos h3] at h; cases h; simp [h3]
  rw [if_neg h3] at h
  by_cases h4 : op = ⟨#[62, 62]⟩
  · rw [if_pos h4] at h; cases h; simp [h4]
  rw [if_neg h4] at h
  by_cases h5 : op = ⟨#[43]⟩
  · rw [if_pos h5] at h; cases h; simp [h5]
  rw [if_neg h5] at h
  by_cases h6 : op = ⟨#[45]⟩
  · rw [if_pos h6] at h; cases h; simp [h6]
  rw [if_neg h6] at h
  by_cases h7 : op = ⟨#[42]⟩
  · rw [if_pos h7] at h; cases h; simp [h7]
  rw [if_neg h7] at h
  by_cases h8 : op = ⟨#[47]⟩
  · rw [if_pos h8] at h; cases h; simp [h8]
  rw [if_neg h8] at h
  by_cases h9 : op = ⟨#[77, 79, 68]⟩
  · rw [if_pos h9] at h; cases h; simp [h9]
  rw [if_neg h9] at h
  cases h
/-- What the i-th operator of the reference gives. -/
def PairRes (x : Int × Int) (w : World) (e : Ending) (w' : World) : Prop := e = .returned (.tuple #[.int .i64 x.1, .int .i64 x.2]) ∧ w = w'
theorem ranged_code (x : Int × Int) (h : x.2 = 0) : rangedC x = rangedP x.1 := by unfold rangedC; rw [if_pos h]
theorem rangedP_same {n : Int} (h1 : -2147483648 ≤ n) (h2 : n ≤ 2147483647) : rangedP n = (n, 0) := by unfold rangedP; rw [if_neg (by omega)]
/-- The quotient towards zero, put right. -/
theorem div_fix (a p : Int) (hp : 0 < p) : a / p = if a < a.tdiv p * p then a.tdiv p - 1 else a.tdiv p := by
  rw [Int.tdiv_eq_ediv]
  have hsg : p.sign = 1 := Int.sign_eq_one_of_pos hp
  have h1 := Int.mul_ediv_add_emod a p
  have h2 := Int.emod_nonneg a (by omega : p ≠ 0)
  have h3 := Int.emod_lt_of_pos a hp
  rw [hsg]
  have e1 : (a / p + 1) * p = p * (a / p) + p := by rw [Int.add_mul, Int.mul_comm]; omega
  have e0 : (a / p + 0) * p = p * (a / p) := by rw [Int.add_zero, Int.mul_comm]
  split
  · rw [e0]; rw [if_neg (by omega)]; omega
  · rename_i hn
    have hm : a % p ≠ 0 := fun h => hn (.inr (Int.dvd_of_emod_eq_zero h))
    rw [e1, if_pos (by omega)]; omega
theorem div_small (a p : Int) (hp : 1 ≤ p) (h1 : -2147483648 ≤ a) (h2 : a ≤ 2147483647) : -2147483648 ≤ a / p ∧ a / p ≤ 2147483647 := by
  exact ⟨Int.le_ediv_of_mul_le (by omega) (by omega), Int.ediv_le_of_le_mul (by omega) (by omega)⟩
set_option maxHeartbeats 2000000 in
set_option maxRecDepth 100000 in
theorem rapply_any (op : ByteArray) (i : Nat) (hi : opIdx op = some i) (a b : Int) (w : World) (ha : -2147483648 ≤ a ∧ a ≤ 2147483647) (hb : -2147483648 ≤ b ∧ b ≤ 2147483647) :
    Calls Tryz.prog 42 #[.string op, .int .i64 a, .int .i64 b] w (PairRes (opEval op a b) w) := by
  have hE : opEval op a b = rangedC (opRaw i a b) := by unfold opEval; rw [hi]
  rw [hE]
  obtain ⟨ha1, ha2⟩ := ha
  obtain ⟨hb1, hb2⟩ := hb
  have hop := op_of_idx hi
  clear hE hi
  rcases hop with ⟨rfl, rfl⟩ | ⟨rfl, rfl⟩ | ⟨rfl, rfl⟩ | ⟨rfl, rfl⟩ | ⟨rfl, rfl⟩ | ⟨rfl, rfl⟩ | ⟨rfl, rfl⟩ | ⟨rfl, rfl⟩ | ⟨rfl, rfl⟩ | ⟨rfl, rfl⟩
  · show Calls _ _ _ _ (PairRes (rangedP (bits .or .i64 a b)) w)
    go_enter Tryz.func42, Tryz.ntmps42
    go_wp2_with fail
    (with_reducible refine (rranged_any _ _).mono ?_)
    rintro e w1 ⟨rfl, rfl⟩
    go_wp2_with fail
    exact bodyPost_ret (v := .tuple #[.int .i64 (rangedP (bits .or .i64 a b)).1, .int .i64 (rangedP (bits .or .i64 a b)).2]) (by simp [results, Tryz.results42, go_sem]) rfl ⟨rfl, rfl⟩
  · show Calls _ _ _ _ (PairRes (rangedP (bits .xor .i64 a b)) w)
    go_enter Tryz.func42, Tryz.ntmps42
    go_wp2_with fail
    (with_reducible refine (rranged_any _ _).mono ?_)
    rintro e w1 ⟨rfl, rfl⟩
    go_wp2_with fail
    exact bodyPost_ret (v := .tuple #[.int .i64 (rangedP (bits .xor .i64 a b)).1, .int .i64 (rangedP (bits .xor .i64 a b)).2]) (by simp [results, Tryz.results42, go_sem]) rfl ⟨rfl, rfl⟩
  · show Calls _ _ _ _ (PairRes (rangedP (bits .and .i64 a b)) w)
    go_enter Tryz.func42, Tryz.ntmps42
    go_wp2_with fail
    (with_reducible refine (rranged_any _ _).mono ?_)
    rintro e w1 ⟨rfl, rfl⟩
    go_wp2_with fail
    exact bodyPost_ret (v := .tuple #[.int .i64 (rangedP (bits .and .i64 a b)).1, .int .i64 (rangedP (bits .and .i64 a b)).2]) (by simp [results, Tryz.results42, go_sem]) rfl ⟨rfl, rfl⟩
  · by_cases hbb : b < 0 ∨ 31 < b
    · have hR : rangedC (opRaw 3 a b) = (0, 2) := by simp [opRaw, hbb, rangedC]
      rw [hR]
      clear hR
      rcases hbb with h | h
      · go_enter Tryz.func42, Tryz.ntmps42
        go_wp2_with fail
        exact bodyPost_ret (v := .tuple #[.int .i64 0, .int .i64 2]) (by simp [results, Tryz.results42, go_sem]) rfl ⟨rfl, rfl⟩
      · have h0 : ¬ b < 0 := by omega
        go_enter Tryz.func42, Tryz.ntmps42
        go_wp2_with fail
        exact bodyPost_ret (v := .tuple #[.int .i64 0, .int .i64 2]) (by simp [results, Tryz.results42, go_sem]) rfl ⟨rfl, rfl⟩
    · have hR : rangedC (opRaw 3 a b) = rangedP (opFun 3 a b) := by simp [opRaw, hbb, ranged_code]
      rw [hR]
      clear hR
      obtain ⟨N, rfl⟩ : ∃ N : Nat, b = N := ⟨b.toNat, by omega⟩
      have hN : N ≤ 31 := by omega
      have hN1 : ¬ (N : Int) < 0 := by omega
      have hN2 : ¬ (31 : Int) < (N : Int) := by omega
      clear hbb
      go_enter Tryz.func42, Tryz.ntmps42
      go_wp2_with fail
      go_loop [8, 9] (fun p i => ∃ k : Nat, k ≤ N ∧ i = .int .i64 k ∧ p = .int .i64 (2 ^ k)) (fun _ i => N - (intOf i).toNat)
      case atStart => exact ⟨0, Nat.zero_le _, rfl, rfl⟩
      case round =>
        obtain ⟨k, hk, rfl, rfl⟩ := hrel
        have hp := pow31 (k : Int) (by omega) (by omega)
        rw [Int.toNat_natCast] at hp
        have hps : (2 : Int) ^ (k + 1) = 2 * 2 ^ k := by rw [Int.pow_succ]; omega
        have HPS := Lib.hid hps; clear hps
        by_cases hlt : k < N
        · have hlt' : (k : Int) < (N : Int) := by omega
          obtain ⟨p, hpe⟩ : ∃ p : Int, (2 : Int) ^ k = p := ⟨_, rfl⟩
          rw [hpe] at hp HPS ⊢
          have HPE := Lib.hid hpe; clear hpe
          obtain ⟨hp1, hp2⟩ := hp
          go_wp2_with fail
          go_round
          case rel => exact ⟨k + 1, by omega, by go_num, by rw [HPS.out]⟩
          case measure => simp [intOf]; omega
        · obtain rfl : k = N := by omega
          have hle : (k : Int) ≤ (k : Int) := Int.le_refl _
          have hF : opFun 3 a (k : Int) = a * 2 ^ k := by simp [opFun]
          rw [hF]
          obtain ⟨p, hpe⟩ : ∃ p : Int, (2 : Int) ^ k = p := ⟨_, rfl⟩
          rw [hpe] at hp ⊢
          rw [hpe] at hF
          have HF := Lib.hid hF
          have HPE := Lib.hid hpe; clear hpe hF HPS
          obtain ⟨hp1, hp2⟩ := hp
          have hm := mul_in (a := a) (p := p) ha1 ha2 (by omega) hp2
          obtain ⟨hm1, hm2⟩ := hm
          go_wp2_with fail
          (with_reducible refine (rranged_any _ _).mono ?_)
          rintro e w1 ⟨rfl, rfl⟩
          go_wp2_with fail
          exact bodyPost_ret (v := .tuple #[.int .i64 (rangedP (a * p)).1, .int .i64 (rangedP (a * p)).2]) (by simp [results, Tryz.results42, go_sem]) rfl ⟨by rw [HF.out], rfl⟩
  · by_cases hbb : b < 0 ∨ 31 < b
    · have hR : rangedC (opRaw 4 a b) = (0, 2) := by simp [opRaw, hbb, rangedC]
      rw [hR]
      clear hR
      rcases hbb with h | h
      · go_enter Tryz.func42, Tryz.ntmps42
        go_wp2_with fail
        exact bodyPost_ret (v := .tuple #[.int .i64 0, .int .i64 2]) (by simp [results, Tryz.results42, go_sem]) rfl ⟨rfl, rfl⟩
      · have h0 : ¬ b < 0 := by omega
        go_enter Tryz.func42, Tryz.ntmps42
        go_wp2_with fail
        exact bodyPost_ret (v := .tuple #[.int .i64 0, .int .i64 2]) (by simp [results, Tryz.results42, go_sem]) rfl ⟨rfl, rfl⟩
    · have hR : rangedC (opRaw 4 a b) = rangedP (opFun 4 a b) := by simp [opRaw, hbb, ranged_code]
      rw [hR]
      clear hR
      obtain ⟨N, rfl⟩ : ∃ N : Nat, b = N := ⟨b.toNat, by omega⟩
      have hN : N ≤ 31 := by omega
      have hN1 : ¬ (N : Int) < 0 := by omega
      have hN2 : ¬ (31 : Int) < (N : Int) := by omega
      clear hbb
      go_enter Tryz.func42, Tryz.ntmps42
      go_wp2_with fail
      go_loop [8, 9] (fun p i => ∃ k : Nat, k ≤ N ∧ i = .int .i64 k ∧ p = .int .i64 (2 ^ k)) (fun _ i => N - (intOf i).toNat)
      case atStart => exact ⟨0, Nat.zero_le _, rfl, rfl⟩
      case round =>
        obtain ⟨k, hk, rfl, rfl⟩ := hrel
        have hp := pow31 (k : Int) (by omega) (by omega)
        rw [Int.toNat_natCast] at hp
        have hps : (2 : Int) ^ (k + 1) = 2 * 2 ^ k := by rw [Int.pow_succ]; omega
        have HPS := Lib.hid hps; clear hps
        by_cases hlt : k < N
        · have hlt' : (k : Int) < (N : Int) := by omega
          obtain ⟨p, hpe⟩ : ∃ p : Int, (2 : Int) ^ k = p := ⟨_, rfl⟩
          rw [hpe] at hp HPS ⊢
          have HPE := Lib.hid hpe; clear hpe
          obtain ⟨hp1, hp2⟩ := hp
          go_wp2_with fail
          go_round
          case rel => exact ⟨k + 1, by omega, by go_num, by rw [HPS.out]⟩
          case measure => simp [intOf]; omega
        · obtain rfl : k = N := by omega
          have hle : (k : Int) ≤ (k : Int) := Int.le_refl _
          have hF : opFun 4 a (k : Int) = a / 2 ^ k := by simp [opFun]
          rw [hF]
          obtain ⟨p, hpe⟩ : ∃ p : Int, (2 : Int) ^ k = p := ⟨_, rfl⟩
          rw [hpe] at hp ⊢
          clear HPS
          obtain ⟨hp1, hp2⟩ := hp
          have hd := tdiv_in (a := a) (b := p) ha1 ha2
          have hfl := div_fix a p (by omega)
          have hdiv := div_small a p hp1 ha1 ha2
          have hfin : rangedP (opFun 4 a (k : Int)) = (a / p, 0) := by rw [hF, hpe, rangedP_same hdiv.1 hdiv.2]
          have hzp : (p == 0) = false := by rw [beq_eq_false_iff_ne]; omega
          have hmm : -8000000000 ≤ a.tdiv p * p ∧ a.tdiv p * p ≤ 8000000000 := by
            have h1 : (a.tmod p).natAbs ≤ a.natAbs := by rw [Int.natAbs_tmod]; exact Nat.mod_le _ _
            have h2 : a.tmod p = a - a.tdiv p * p := by rw [Int.tmod_def, Int.mul_comm]
            omega
          obtain ⟨hd1, hd2⟩ := hd
          obtain ⟨hm1, hm2⟩ := hmm
          have HFL := Lib.hid hfl; clear hfl hdiv
          obtain ⟨D, hD⟩ : ∃ D, a / p = D := ⟨_, rfl⟩
          rw [hD] at HFL hfin
          have HFIN := Lib.hid hfin
          clear hD hfin hF hpe
          by_cases hgt : a < a.tdiv p * p
          · have hr := HFL.out
            rw [if_pos hgt] at hr
            have HR := Lib.hid hr; clear hr HFL
            go_wp2_with fail
            exact bodyPost_ret (v := .tuple #[.int .i64 (a.tdiv p - 1), .int .i64 0]) (by simp [results, Tryz.results42, go_sem]) rfl ⟨by rw [HFIN.out, HR.out], rfl⟩
          · have hr := HFL.out
            rw [if_neg hgt] at hr
            have HR := Lib.hid hr; clear hr HFL
            go_wp2_with fail
            exact bodyPost_ret (v := .tuple #[.int .i64 (a.tdiv p), .int .i64 0]) (by simp [results, Tryz.results42, go_sem]) rfl ⟨by rw [HFIN.out, HR.out], rfl⟩
  · show Calls _ _ _ _ (PairRes (rangedP (a + b)) w)
    go_enter Tryz.func42, Tryz.ntmps42
    go_wp2_with fail
    (with_reducible refine (rranged_any _ _).mono ?_)
    rintro e w1 ⟨rfl, rfl⟩
    go_wp2_with fail
    exact bodyPost_ret (v := .tuple #[.int .i64 (rangedP (a + b)).1, .int .i64 (rangedP (a + b)).2]) (by simp [results, Tryz.results42, go_sem]) rfl ⟨rfl, rfl⟩
  · show Calls _ _ _ _ (PairRes (rangedP (a - b)) w)
    go_enter Tryz.func42, Tryz.ntmps42
    go_wp2_with fail
    (with_reducible refine (rranged_any _ _).mono ?_)
    rintro e w1 ⟨rfl, rfl⟩
    go_wp2_with fail
    exact bodyPost_ret (v := .tuple #[.int .i64 (rangedP (a - b)).1, .int .i64 (rangedP (a - b)).2]) (by simp [results, Tryz.results42, go_sem]) rfl ⟨rfl, rfl⟩
  · show Calls _ _ _ _ (PairRes (rangedP (a * b)) w)
    have hm := mul_in ha1 ha2 hb1 (by omega)
    go_enter Tryz.func42, Tryz.ntmps42
    go_wp2_with fail
    (with_reducible refine (rranged_any _ _).mono ?_)
    rintro e w1 ⟨rfl, rfl⟩
    go_wp2_with fail
    exact bodyPost_ret (v := .tuple #[.int .i64 (rangedP (a * b)).1, .int .i64 (rangedP (a * b)).2]) (by simp [results, Tryz.results42, go_sem]) rfl ⟨rfl, rfl⟩
  · by_cases hz : b = 0
    · subst hz
      show Calls _ _ _ _ (PairRes (0, 18) w)
      go_enter Tryz.func42, Tryz.ntmps42
      go_wp2_with fail
      exact bodyPost_ret (v := .tuple #[.int .i64 0, .int .i64 18]) (by simp [results, Tryz.results42, go_sem]) rfl ⟨rfl, rfl⟩
    · have hR : rangedC (opRaw 8 a b) = rangedP (a.tdiv b) := by simp [opRaw, hz, opFun, ranged_code]
      rw [hR]
      have hzb : (b == 0) = false := by simpa using hz
      have hw : wrap64 (a.tdiv b) = a.tdiv b := by have := tdiv_in (b := b) ha1 ha2; simp only [wrap64]; omega
      have HW := Lib.hid hw; clear hw hR
      go_enter Tryz.func42, Tryz.ntmps42
      go_wp2_with fail
      refine (rranged_any _ _).mono ?_
      rintro e w1 ⟨rfl, rfl⟩
      go_wp2_with fail
      exact bodyPost_ret (v := .tuple #[.int .i64 (rangedP (wrap64 (a.tdiv b))).1, .int .i64 (rangedP (wrap64 (a.tdiv b))).2]) (by simp [results, Tryz.results42, go_sem]) rfl ⟨by rw [HW.out], rfl⟩
  · by_cases hz : b = 0
    · subst hz
      show Calls _ _ _ _ (PairRes (0, 18) w)
      go_enter Tryz.func42, Tryz.ntmps42
      go_wp2_with fail
      exact bodyPost_ret (v := .tuple #[.int .i64 0, .int .i64 18]) (by simp [results, Tryz.results42, go_sem]) rfl ⟨rfl, rfl⟩
    · have hR : rangedC (opRaw 9 a b) = (a.tmod b, 0) := by
        have h1 : (a.tmod b).natAbs ≤ a.natAbs := by rw [Int.natAbs_tmod]; exact Nat.mod_le _ _
        have h0 : a < 0 → a.tmod b ≤ 0 := fun h => by
          have h3 := Int.tmod_nonneg (a := -a) b (by omega)
          rw [Int.neg_tmod] at h3
          omega
        have h00 : 0 ≤ a → 0 ≤ a.tmod b := fun h => Int.tmod_nonneg b h
        have h2 : opRaw 9 a b = (a.tmod b, 0) := by simp [opRaw, hz, opFun]
        rw [h2, ranged_code _ rfl]
        exact rangedP_same (by omega) (by omega)
      rw [hR]
      have hzb : (b == 0) = false := by simpa using hz
      have hd := tdiv_in (b := b) ha1 ha2
      have hm := mul_in (a := b) (p := a.tdiv b) hb1 hb2 hd.1 hd.2
      rw [Int.mul_comm] at hm
      have htm : a.tmod b = a - a.tdiv b * b := by rw [Int.tmod_def, Int.mul_comm]
      have HTM := Lib.hid htm; clear htm hR
      have hq : (a.tdiv b * b).natAbs ≤ 2 * a.natAbs := by
        have h1 : (a.tmod b).natAbs ≤ a.natAbs := by rw [Int.natAbs_tmod]; exact Nat.mod_le _ _
        have := HTM.out
        omega
      obtain ⟨hd1, hd2⟩ := hd
      obtain ⟨hm1, hm2⟩ := hm
      have hs1 : -8000000000 ≤ a - a.tdiv b * b := by have := hq; omega
      have hs2 : a - a.tdiv b * b ≤ 8000000000 := by have := hq; omega
      clear hq
      go_enter Tryz.func42, Tryz.ntmps42
      go_wp2_with fail
      exact bodyPost_ret (v := .tuple #[.int .i64 (a - a.tdiv b * b), .int .i64 0]) (by simp [results, Tryz.results42, go_sem]) rfl ⟨by rw [HTM.out], rfl⟩
end Go.Proofs.YtnjpfhihbjihbaaGreatDoor

/- num.Fits at one number. -/
namespace Go.Proofs.YtnjpfhihbjihbaaGreatDoor
open Go.RowKit

set_option maxHeartbeats 400000 in
theorem fits1 (lo hi n : Int) (b : Nat) (w : World) (hc : w.cell? ⟨b, 0, none⟩ = some (.int .i64 n)) :
    Calls Tryz.prog 102 #[.int .i64 lo, .int .i64 hi, .slice (some ⟨b, 0, none⟩) 1 1] w fun e w' => e = .returned (.bool (decide (lo ≤ n) && decide (n ≤ hi))) ∧ w = w' := by
  by_cases h1 : n < lo
  · go_enter Tryz.func102, Tryz.ntmps102
    go_wp2
    refine wp_loop_rounds 2 ?_
    rw [rounds_succ]
    go_wp2
    go_ret
    exact ⟨by simp; omega, rfl⟩
  · by_cases h2 : hi < n
    · go_enter Tryz.func102, Tryz.ntmps102
      go_wp2
      refine wp_loop_rounds 2 ?_
      rw [rounds_succ]
      go_wp2
      go_ret
      exact ⟨by simp; omega, rfl⟩
    · go_enter Tryz.func102, Tryz.ntmps102
      go_wp2
      refine wp_loop_rounds 2 ?_
      rw [rounds_succ]
      go_wp2
      rw [rounds_succ]
      go_wp2
      go_ret
      exact ⟨by simp; omega, rfl⟩
end Go.Proofs.YtnjpfhihbjihbaaGreatDoor

/- The functions in the map of operators. -/
namespace Go.Proofs.YtnjpfhihbjihbaaGreatDoor
open Go.RowKit Go.Sort

set_option maxHeartbeats 1000000 in
theorem opfn_any (i : Nat) (hi : i < 10) (a b : Int) (w : World) (ha : -2147483648 ≤ a ∧ a ≤ 2147483647) (hb : -2147483648 ≤ b ∧ b ≤ 2147483647) (hs : i = 3 ∨ i = 4 → 0 ≤ b ∧ b ≤ 31) (hd : i = 8 ∨ i = 9 → b ≠ 0) :
    Calls Tryz.prog (opFn i) #[.int .i64 a, .int .i64 b] w fun e w' => e = .returned (.int .i64 (opFun i a b)) ∧ w = w' := by
  obtain ⟨ha1, ha2⟩ := ha
  obtain ⟨hb1, hb2⟩ := hb
  have h10 : i = 0 ∨ i = 1 ∨ i = 2 ∨ i = 3 ∨ i = 4 ∨ i = 5 ∨ i = 6 ∨ i = 7 ∨ i = 8 ∨ i = 9 := by omega
  rcases h10 with rfl | rfl | rfl | rfl | rfl | rfl | rfl | rfl | rfl | rfl
  · show Calls Tryz.prog 104 _ _ _
    go_enter Tryz.func104, Tryz.ntmps104
    go_wp2
    go_ret
    exact ⟨rfl, rfl⟩
  · show Calls Tryz.prog 105 _ _ _
    go_enter Tryz.func105, Tryz.ntmps105
    go_wp2
    go_ret
    exact ⟨rfl, rfl⟩
  · show Calls Tryz.prog 106 _ _ _
    go_enter Tryz.func106, Tryz.ntmps106
    go_wp2
    go_ret
    exact ⟨rfl, rfl⟩
  · show Calls Tryz.prog 108 _ _ _
    obtain ⟨h0, h1⟩ := hs (.inl rfl)
    have hp := pow31 b h0 h1
    have hm := mul_in ha1 ha2 (by omega) hp.2
    have hw : wrap64 (a * 2 ^ b.toNat) = a * 2 ^ b.toNat := by simp only [wrap64]; omega
    have HW := Lib.hid hw
    clear hs hd hp hm hw
    go_enter Tryz.func108, Tryz.ntmps108
    go_wp2
    go_ret
    exact ⟨by show Ending.returned (.int .i64 (wrap64 _)) = _; rw [HW.out]; rfl, rfl⟩
  · show Calls Tryz.prog 109 _ _ _
    obtain ⟨h0, h1⟩ := hs (.inr rfl)
    clear hs hd
    go_enter Tryz.func109, Tryz.ntmps109
    go_wp2
    go_ret
    exact ⟨rfl, rfl⟩
  · show Calls Tryz.prog 110 _ _ _
    go_enter Tryz.func110, Tryz.ntmps110
    go_wp2
    go_ret
    exact ⟨rfl, rfl⟩
  · show Calls Tryz.prog 111 _ _ _
    go_enter Tryz.func111, Tryz.ntmps111
    go_wp2
    go_ret
    exact ⟨rfl, rfl⟩
  · show Calls Tryz.prog 112 _ _ _
    have hm := mul_in ha1 ha2 hb1 (by omega)
    go_enter Tryz.func112, Tryz.ntmps112
    go_wp2
    go_ret
    exact ⟨rfl, rfl⟩
  · show Calls Tryz.prog 114 _ _ _
    have h0 := hd (.inl rfl)
    have hw : wrap64 (a.tdiv b) = a.tdiv b := by have := tdiv_in (b := b) ha1 ha2; simp only [wrap64]; omega
    have HW := Lib.hid hw; clear hw
    go_enter Tryz.func114, Tryz.ntmps114
    go_wp2
    go_ret
    exact ⟨by show Ending.returned (.int .i64 (wrap64 _)) = _; rw [HW.out]; rfl, rfl⟩
  · show Calls Tryz.prog 115 _ _ _
    have h0 := hd (.inr rfl)
    go_enter Tryz.func115, Tryz.ntmps115
    go_wp2
    go_ret
    exact ⟨rfl, rfl⟩

set_option maxHeartbeats 1000000 in
theorem apply_any (i : Nat) (hi : i < 10) (a b : Int) (g : Nat) (w : World) (ha : -2147483648 ≤ a ∧ a ≤ 2147483647) (hb : -2147483648 ≤ b ∧ b ≤ 2147483647) (hc : w.cell? ⟨g, 0, none⟩ = some (.func (.func (opFn i)) #[] #[])) (hg : g < w.heap.size) :
    Calls Tryz.prog (opCl i) #[.int .i64 a, .int .i64 b, .pointer (some ⟨g, 0, none⟩)] w fun e w' => e = .returned (.tuple #[.int .i64 (opRaw i a b).1, .int .i64 (opRaw i a b).2]) ∧ Below w.heap.size w w' := by
  have hop := opfn_any i hi a b
  obtain ⟨R, hR⟩ : ∃ R, opRaw i a b = R := ⟨_, rfl⟩
  obtain ⟨F, hF⟩ : ∃ F, opFun i a b = F := ⟨_, rfl⟩
  rw [hR]
  rw [hF] at hop
  unfold opRaw at hR
  rw [hF] at hR
  have h10 : (i = 0 ∨ i = 1 ∨ i = 2 ∨ i = 5 ∨ i = 6 ∨ i = 7) ∨ (i = 3 ∨ i = 4) ∨ (i = 8 ∨ i = 9) := by omega
  rcases h10 with h | h | h
  · rw [if_neg (by omega), if_neg (by omega)] at hR
    subst hR
    have hop := fun w => hop w ha hb (by omega) (by omega)
    have HOP := Lib.hid hop; clear hop
    have hcl : opCl i = 140 := by rcases h with rfl | rfl | rfl | rfl | rfl | rfl <;> rfl
    rw [hcl]
    clear hcl hF
    rcases h with rfl | rfl | rfl | rfl | rfl | rfl
    all_goals
      simp only [opFn] at hc HOP
      go_enter Tryz.func140, Tryz.ntmps140
      go_wp2_with fail
      refine (HOP.out _).mono ?_
      rintro e w1 ⟨rfl, rfl⟩
      go_wp2_with fail
      exact bodyPost_ret (v := .tuple #[.int .i64 F, .int .i64 0]) (by simp [results, Tryz.results140, go_sem]) rfl ⟨rfl, by (repeat (first | exact Below.refl _ _ | refine Below.drew ?_ | (refine below_gw' ?_ (by first | omega | (simp [go_sem]; done) | (simp [go_sem]; omega)) _) | (refine Below.alloc ?_ (by first | omega | (simp [go_sem]; done) | (simp [go_sem]; omega)) _) | (refine Below.setCell ?_ (by first | omega | (simp [go_sem]; done) | (simp [go_sem]; omega)) _)))⟩
  · have hcl : opCl i = 141 := by rcases h with rfl | rfl <;> rfl
    rw [hcl]
    have hfit := fits1 0 31 b
    by_cases hbb : b < 0 ∨ 31 < b
    · rw [if_pos ⟨h, hbb⟩] at hR
      subst hR
      have hd : (decide (0 ≤ b) && decide (b ≤ 31)) = false := by simp; omega
      rw [hd] at hfit
      have HFIT := Lib.hid hfit; clear hfit hd hop hcl hF
      go_enter Tryz.func141, Tryz.ntmps141
      go_wp2_with fail
      refine (HFIT.out _ _ (by simp [go_sem])).mono ?_
      rintro e w1 ⟨rfl, rfl⟩
      go_wp2_with fail
      exact bodyPost_ret (v := .tuple #[.int .i64 0, .int .i64 2]) (by simp [results, Tryz.results141, go_sem]) rfl ⟨rfl, by (repeat (first | exact Below.refl _ _ | refine Below.drew ?_ | (refine below_gw' ?_ (by first | omega | (simp [go_sem]; done) | (simp [go_sem]; omega)) _) | (refine Below.alloc ?_ (by first | omega | (simp [go_sem]; done) | (simp [go_sem]; omega)) _) | (refine Below.setCell ?_ (by first | omega | (simp [go_sem]; done) | (simp [go_sem]; omega)) _)))⟩
    · rw [if_neg (by omega), if_neg (by omega)] at hR
      subst hR
      have hd : (decide (0 ≤ b) && decide (b ≤ 31)) = true := by simp; omega
      rw [hd] at hfit
      have hop := fun w => hop w ha hb (by omega) (by omega)
      have HOP := Lib.hid hop; clear hop
      have HFIT := Lib.hid hfit; clear hfit hd hcl hF
      rcases h with rfl | rfl
      all_goals
        simp only [opFn] at hc HOP
        go_enter Tryz.func141, Tryz.ntmps141
        go_wp2_with fail
        refine (HFIT.out _ _ (by simp [go_sem])).mono ?_
        rintro e w1 ⟨rfl, rfl⟩
        go_wp2_with fail
        refine (HOP.out _).mono ?_
        rintro e w1 ⟨rfl, rfl⟩
        go_wp2_with fail
        exact bodyPost_ret (v := .tuple #[.int .i64 F, .int .i64 0]) (by simp [results, Tryz.results141, go_sem]) rfl ⟨rfl, by (repeat (first | exact Below.refl _ _ | refine Below.drew ?_ | (refine below_gw' ?_ (by first | omega | (simp [go_sem]; done) | (simp [go_sem]; omega)) _) | (refine Below.alloc ?_ (by first | omega | (simp [go_sem]; done) | (simp [go_sem]; omega)) _) | (refine Below.setCell ?_ (by first | omega | (simp [go_sem]; done) | (simp [go_sem]; omega)) _)))⟩
  · have hcl : opCl i = 142 := by rcases h with rfl | rfl <;> rfl
    rw [hcl]
    rw [if_neg (by omega)] at hR
    by_cases hb0 : b = 0
    · rw [if_pos ⟨h, hb0⟩] at hR
      subst hR
      subst hb0
      clear hop hcl hF
      go_enter Tryz.func142, Tryz.ntmps142
      go_wp2_with fail
      exact bodyPost_ret (v := .tuple #[.int .i64 0, .int .i64 18]) (by simp [results, Tryz.results142, go_sem]) rfl ⟨rfl, by (repeat (first | exact Below.refl _ _ | refine Below.drew ?_ | (refine below_gw' ?_ (by first | omega | (simp [go_sem]; done) | (simp [go_sem]; omega)) _) | (refine Below.alloc ?_ (by first | omega | (simp [go_sem]; done) | (simp [go_sem]; omega)) _) | (refine Below.setCell ?_ (by first | omega | (simp [go_sem]; done) | (simp [go_sem]; omega)) _)))⟩
    · rw [if_neg (fun h => hb0 h.2)] at hR
      subst hR
      have hop := fun w => hop w ha hb (by omega) (fun _ => hb0)
      have HOP := Lib.hid hop; clear hop
      have b0 : (b == 0) = false := by simpa using hb0
      clear hcl hF
      rcases h with rfl | rfl
      all_goals
        simp only [opFn] at hc HOP
        go_enter Tryz.func142, Tryz.ntmps142
        go_wp2_with fail
        refine (HOP.out _).mono ?_
        rintro e w1 ⟨rfl, rfl⟩
        go_wp2_with fail
        exact bodyPost_ret (v := .tuple #[.int .i64 F, .int .i64 0]) (by simp [results, Tryz.results142, go_sem]) rfl ⟨rfl, by (repeat (first | exact Below.refl _ _ | refine Below.drew ?_ | (refine below_gw' ?_ (by first | omega | (simp [go_sem]; done) | (simp [go_sem]; omega)) _) | (refine Below.alloc ?_ (by first | omega | (simp [go_sem]; done) | (simp [go_sem]; omega)) _) | (refine Below.setCell ?_ (by first | omega | (simp [go_sem]; done) | (simp [go_sem]; omega)) _)))⟩

set_option maxHeartbeats 1000000 in
theorem pranged_any (n c : Int) (w : World) :
    Calls Tryz.prog 65 #[.int .i64 n, .int .i64 c] w fun e w' => e = .returned (.tuple #[.int .i64 (rangedC (n, c)).1, .int .i64 (rangedC (n, c)).2]) ∧ Below w.heap.size w w' := by
  by_cases hc : c = 0
  · subst hc
    have hfit := fits1 (-2147483648) 2147483647 n
    by_cases hn : n < -2147483648 ∨ 2147483647 < n
    · have hr : rangedC (n, 0) = (0, 2) := by simp [rangedC, rangedP, hn]
      rw [hr]
      have hd : (decide (-2147483648 ≤ n) && decide (n ≤ 2147483647)) = false := by simp; omega
      rw [hd] at hfit
      have HFIT := Lib.hid hfit; clear hfit hd hr
      go_enter Tryz.func65, Tryz.ntmps65
      go_wp2_with fail
      refine (HFIT.out _ _ (by simp [go_sem])).mono ?_
      rintro e w1 ⟨rfl, rfl⟩
      go_wp2_with fail
      exact bodyPost_ret (v := .tuple #[.int .i64 0, .int .i64 2]) (by simp [results, Tryz.results65, go_sem]) rfl ⟨rfl, by (repeat (first | exact Below.refl _ _ | refine Below.drew ?_ | (refine below_gw' ?_ (by first | omega | (simp [go_sem]; done) | (simp [go_sem]; omega)) _) | (refine Below.alloc ?_ (by first | omega | (simp [go_sem]; done) | (simp [go_sem]; omega)) _) | (refine Below.setCell ?_ (by first | omega | (simp [go_sem]; done) | (simp [go_sem]; omega)) _)))⟩
    · have hr : rangedC (n, 0) = (n, 0) := by simp [rangedC, rangedP, hn]
      rw [hr]
      have hd : (decide (-2147483648 ≤ n) && decide (n ≤ 2147483647)) = true := by simp; omega
      rw [hd] at hfit
      have HFIT := Lib.hid hfit; clear hfit hd hr
      go_enter Tryz.func65, Tryz.ntmps65
      go_wp2_with fail
      refine (HFIT.out _ _ (by simp [go_sem])).mono ?_
      rintro e w1 ⟨rfl, rfl⟩
      go_wp2_with fail
      exact bodyPost_ret (v := .tuple #[.int .i64 n, .int .i64 0]) (by simp [results, Tryz.results65, go_sem]) rfl ⟨rfl, by (repeat (first | exact Below.refl _ _ | refine Below.drew ?_ | (refine below_gw' ?_ (by first | omega | (simp [go_sem]; done) | (simp [go_sem]; omega)) _) | (refine Below.alloc ?_ (by first | omega | (simp [go_sem]; done) | (simp [go_sem]; omega)) _) | (refine Below.setCell ?_ (by first | omega | (simp [go_sem]; done) | (simp [go_sem]; omega)) _)))⟩
  · have hr : rangedC (n, c) = (n, c) := by simp [rangedC, hc]
    rw [hr]
    have hcb : (c == 0) = false := by simpa using hc
    clear hr
    go_enter Tryz.func65, Tryz.ntmps65
    go_wp2_with fail
    exact bodyPost_ret (v := .tuple #[.int .i64 n, .int .i64 c]) (by simp [results, Tryz.results65, go_sem]) rfl ⟨rfl, by (repeat (first | exact Below.refl _ _ | refine Below.drew ?_ | (refine below_gw' ?_ (by first | omega | (simp [go_sem]; done) | (simp [go_sem]; omega)) _) | (refine Below.alloc ?_ (by first | omega | (simp [go_sem]; done) | (simp [go_sem]; omega)) _) | (refine Below.setCell ?_ (by first | omega | (simp [go_sem]; done) | (simp [go_sem]; omega)) _)))⟩
end Go.Proofs.YtnjpfhihbjihbaaGreatDoor

/- expr.Eval: maps of numbers, nodes. -/
namespace Go.Proofs.YtnjpfhihbjihbaaGreatDoor
open Go.RowKit Go.Sort

open Go.ChangeMaps
/-- The values that a map of numbers holds. -/
def MapAt (w : World) (v : Value) (env : ByteArray → Option Int) : Prop :=
  (v = .map none ∧ ∀ s, env s = none) ∨ ∃ b l, v = .map (some b) ∧ SMap w b l ∧ ∀ s, sget l s = (env s).map (Value.int .i64)
theorem MapAt.below {w w' : World} {v : Value} {env : ByteArray → Option Int} (h : MapAt w v env) (hb : Below w.heap.size w w') : MapAt w' v env := by
  rcases h with h | ⟨b, l, hv, hm, hs⟩
  · exact .inl h
  · exact .inr ⟨b, l, hv, hm.below hb, hs⟩
theorem zeroInt (w : World) : (zeroValue 3).run Tryz.prog w = .ok (.int .i64 0) w := by kernel_rfl
theorem MapAt.look {w : World} {v : Value} {env : ByteArray → Option Int} (h : MapAt w v env) (s : ByteArray) : (Instr.lookup 49 v (.string s) true).run Tryz.prog w = .ok (.tuple #[.int .i64 ((env s).getD 0), .bool (env s).isSome]) w := by
  rcases h with ⟨rfl, h⟩ | ⟨b, l, rfl, hm, hs⟩
  · rw [run_snil Tryz.underlying49 Tryz.underlying9 zeroInt, h s]; rfl
  · rw [run_sget Tryz.underlying49 Tryz.underlying9 zeroInt hm, hs s]
    cases env s <;> rfl
theorem node_cells {w : World} {T : TypeId} {g : Nat} {c0 c1 c2 c3 c4 : Value} (h : w.heap[g]? = some (.cells #[c0, c1, c2, c3, c4] T (0, 0))) : g < w.heap.size ∧ w.cell? ⟨g, 0, none⟩ = some c0 ∧ w.cell? ⟨g, 1, none⟩ = some c1 ∧ w.cell? ⟨g, 2, none⟩ = some c2 ∧ w.cell? ⟨g, 3, none⟩ = some c3 ∧ w.cell? ⟨g, 4, none⟩ = some c4 := by
  refine ⟨lt_of_block h, ?_, ?_, ?_, ?_, ?_⟩ <;> simp [World.cell?, h]
theorem cell_lt {w : World} {b o : Nat} {v : Value} (h : w.cell? ⟨b, o, none⟩ = some v) : b < w.heap.size := by
  rcases Nat.lt_or_ge b w.heap.size with h1 | h1
  · exact h1
  · simp [World.cell?, Array.getElem?_eq_none h1] at h
def EvRes (r : Int × Int) (w : World) (e : Ending) (w' : World) : Prop := e = .returned (.tuple #[.int .i64 r.1, .int .i64 r.2]) ∧ Below w.heap.size w w'

end Go.Proofs.YtnjpfhihbjihbaaGreatDoor
