/- Joined texts: Apply17, REval17. -/
import Derived.Test.YtpkbonfbehhbdaaGreatDoorE07
import Derived.Test.YtpkbonfbehhbdaaGreatDoorE08
import Derived.Test.YtpkbonfbehhbdaaGreatDoorE09
/- breadboardref17.apply. -/
namespace Go.Proofs.YtpkbonfbehhbdaaGreatDoor
open Go.RowKit Go.Sort

theorem op_of_idx {op : ByteArray} {i : Nat} (h : opIdx op = some i) : (i = 0 ∧ op = ⟨#[124]⟩) ∨ (i = 1 ∧ op = ⟨#[94]⟩) ∨ (i = 2 ∧ op = ⟨#[38]⟩) ∨ (i = 3 ∧ op = ⟨#[60, 60]⟩) ∨ (i = 4 ∧ op = ⟨#[62, 62]⟩) ∨ (i = 5 ∧ op = ⟨#[43]⟩) ∨ (i = 6 ∧ op = ⟨#[45]⟩) ∨ (i = 7 ∧ op = ⟨#[42]⟩) ∨ (i = 8 ∧ op = ⟨#[47]⟩) ∨ (i = 9 ∧ op = ⟨#[77, 79, 68]⟩) := by
  unfold opIdx at h
  simp only [bbeq, decide_eq_true_eq] at h
  by_cases h0 : op = ⟨#[124]⟩
  · rw [if_pos h0] at h; cases h; simp [h0]
  rw [if_neg h0] at h
  by_cases h1 : op = ⟨#[94]⟩
  · rw [if_pos h1] at h; cases h; simp [h1]
  rw [if_neg h1] at h
  by_cases h2 : op = ⟨#[38]⟩
  · rw [if_pos h2] at h; cases h; simp [h2]
  rw [if_neg h2] at h
  by_cases h3 : op = ⟨#[60, 60]⟩
  · rw [if_pos h3] at h; cases h; simp [h3]
  rw [if_neg h3] at h
  by_cases h4 : op = ⟨#[62, 62]⟩
  · rw [if_pos h4] at h; cases h; simp [h4]
  rw [if_neg h4] at h
  by_cases h5 : op = ⟨#[43]⟩
  · rw [if_pos h5] at h; cases h; simp [h5]
  rw [if_neg h5] at h
  by_cases h6 : op = ⟨#[45]⟩
  · rw [if_pos h6] at h; cases h; simp [h6]
  rw [if_neg h6] at h
  by_cases h7 : op = ⟨#[42]⟩
  · rw [if_pos h7] at h; cases h; simp [h7]
  rw [if_neg h7] at h
  by_cases h8 : op = ⟨#[47]⟩
  · rw [if_pos h8] at h; cases h; simp [h8]
  rw [if_neg h8] at h
  by_cases h9 : op = ⟨#[77, 79, 68]⟩
  · rw [if_pos h9] at h; cases h; simp [h9]
  rw [if_neg h9] at h
  cases h
/-- What the i-th operator of the reference gives. -/
def PairRes (x : Int × Int) (w : World) (e : Ending) (w' : World) : Prop := e = .returned (.tuple #[.int .i64 x.1, .int .i64 x.2]) ∧ w = w'
theorem ranged_code (x : Int × Int) (h : x.2 = 0) : rangedC x = rangedP x.1 := by unfold rangedC; rw [if_pos h]
theorem rangedP_same {n : Int} (h1 : -2147483648 ≤ n) (h2 : n ≤ 2147483647) : rangedP n = (n, 0) := by unfold rangedP; rw [if_neg (by omega)]
/-- The quotient towards zero, put right. -/
theorem div_fix (a p : Int) (hp : 0 < p) : a / p = if a < a.tdiv p * p then a.tdiv p - 1 else a.tdiv p := by
  rw [Int.tdiv_eq_ediv]
  have hsg : p.sign = 1 := Int.sign_eq_one_of_pos hp
  have h1 := Int.mul_ediv_add_emod a p
  have h2 := Int.emod_nonneg a (by omega : p ≠ 0)
  have h3 := Int.emod_lt_of_pos a hp
  rw [hsg]
  have e1 : (a / p + 1) * p = p * (a / p) + p := by rw [Int.add_mul, Int.mul_comm]; omega
  have e0 : (a / p + 0) * p = p * (a / p) := by rw [Int.add_zero, Int.mul_comm]
  split
  · rw [e0]; rw [if_neg (by omega)]; omega
  · rename_i hn
    have hm : a % p ≠ 0 := fun h => hn (.inr (Int.dvd_of_emod_eq_zero h))
    rw [e1, if_pos (by omega)]; omega
theorem div_small (a p : Int) (hp : 1 ≤ p) (h1 : -2147483648 ≤ a) (h2 : a ≤ 2147483647) : -2147483648 ≤ a / p ∧ a / p ≤ 2147483647 := by
  exact ⟨Int.le_ediv_of_mul_le (by omega) (by omega), Int.ediv_le_of_le_mul (by omega) (by omega)⟩
set_option maxHeartbeats 2000000 in
set_option maxRecDepth 100000 in
theorem rapply_any (op : ByteArray) (i : Nat) (hi : opIdx op = some i) (a b : Int) (w : World) (ha : -2147483648 ≤ a ∧ a ≤ 2147483647) (hb : -2147483648 ≤ b ∧ b ≤ 2147483647) :
    Calls Tryz.prog 42 #[.string op, .int .i64 a, .int .i64 b] w (PairRes (opEval op a b) w) := by
  have hE : opEval op a b = rangedC (opRaw i a b) := by unfold opEval; rw [hi]
  rw [hE]
  obtain ⟨ha1, ha2⟩ := ha
  obtain ⟨hb1, hb2⟩ := hb
  have hop := op_of_idx hi
  clear hE hi
  rcases hop with ⟨rfl, rfl⟩ | ⟨rfl, rfl⟩ | ⟨rfl, rfl⟩ | ⟨rfl, rfl⟩ | ⟨rfl, rfl⟩ | ⟨rfl, rfl⟩ | ⟨rfl, rfl⟩ | ⟨rfl, rfl⟩ | ⟨rfl, rfl⟩ | ⟨rfl, rfl⟩
  · show Calls _ _ _ _ (PairRes (rangedP (bits .or .i64 a b)) w)
    go_enter Tryz.func42, Tryz.ntmps42
    go_wp2_with fail
    (with_reducible refine (rranged_any _ _).mono ?_)
    rintro e w1 ⟨rfl, rfl⟩
    go_wp2_with fail
    exact bodyPost_ret (v := .tuple #[.int .i64 (rangedP (bits .or .i64 a b)).1, .int .i64 (rangedP (bits .or .i64 a b)).2]) (by simp [results, Tryz.results42, go_sem]) rfl ⟨rfl, rfl⟩
  · show Calls _ _ _ _ (PairRes (rangedP (bits .xor .i64 a b)) w)
    go_enter Tryz.func42, Tryz.ntmps42
    go_wp2_with fail
    (with_reducible refine (rranged_any _ _).mono ?_)
    rintro e w1 ⟨rfl, rfl⟩
    go_wp2_with fail
    exact bodyPost_ret (v := .tuple #[.int .i64 (rangedP (bits .xor .i64 a b)).1, .int .i64 (rangedP (bits .xor .i64 a b)).2]) (by simp [results, Tryz.results42, go_sem]) rfl ⟨rfl, rfl⟩
  · show Calls _ _ _ _ (PairRes (rangedP (bits .and .i64 a b)) w)
    go_enter Tryz.func42, Tryz.ntmps42
    go_wp2_with fail
    (with_reducible refine (rranged_any _ _).mono ?_)
    rintro e w1 ⟨rfl, rfl⟩
    go_wp2_with fail
    exact bodyPost_ret (v := .tuple #[.int .i64 (rangedP (bits .and .i64 a b)).1, .int .i64 (rangedP (bits .and .i64 a b)).2]) (by simp [results, Tryz.results42, go_sem]) rfl ⟨rfl, rfl⟩
  · by_cases hbb : b < 0 ∨ 31 < b
    · have hR : rangedC (opRaw 3 a b) = (0, 2) := by simp [opRaw, hbb, rangedC]
      rw [hR]
      clear hR
      rcases hbb with h | h
      · go_enter Tryz.func42, Tryz.ntmps42
        go_wp2_with fail
        exact bodyPost_ret (v := .tuple #[.int .i64 0, .int .i64 2]) (by simp [results, Tryz.results42, go_sem]) rfl ⟨rfl, rfl⟩
      · have h0 : ¬ b < 0 := by omega
        go_enter Tryz.func42, Tryz.ntmps42
        go_wp2_with fail
        exact bodyPost_ret (v := .tuple #[.int .i64 0, .int .i64 2]) (by simp [results, Tryz.results42, go_sem]) rfl ⟨rfl, rfl⟩
    · have hR : rangedC (opRaw 3 a b) = rangedP (opFun 3 a b) := by simp [opRaw, hbb, ranged_code]
      rw [hR]
      clear hR
      obtain ⟨N, rfl⟩ : ∃ N : Nat, b = N := ⟨b.toNat, by omega⟩
      have hN : N ≤ 31 := by omega
      have hN1 : ¬ (N : Int) < 0 := by omega
      have hN2 : ¬ (31 : Int) < (N : Int) := by omega
      clear hbb
      go_enter Tryz.func42, Tryz.ntmps42
      go_wp2_with fail
      go_loop [8, 9] (fun p i => ∃ k : Nat, k ≤ N ∧ i = .int .i64 k ∧ p = .int .i64 (2 ^ k)) (fun _ i => N - (intOf i).toNat)
      case atStart => exact ⟨0, Nat.zero_le _, rfl, rfl⟩
      case round =>
        obtain ⟨k, hk, rfl, rfl⟩ := hrel
        have hp := pow31 (k : Int) (by omega) (by omega)
        rw [Int.toNat_natCast] at hp
        have hps : (2 : Int) ^ (k + 1) = 2 * 2 ^ k := by rw [Int.pow_succ]; omega
        have HPS := Lib.hid hps; clear hps
        by_cases hlt : k < N
        · have hlt' : (k : Int) < (N : Int) := by omega
          obtain ⟨p, hpe⟩ : ∃ p : Int, (2 : Int) ^ k = p := ⟨_, rfl⟩
          rw [hpe] at hp HPS ⊢
          have HPE := Lib.hid hpe; clear hpe
          obtain ⟨hp1, hp2⟩ := hp
          go_wp2_with fail
          go_round
          case rel => exact ⟨k + 1, by omega, by go_num, by rw [HPS.out]⟩
          case measure => simp [intOf]; omega
        · obtain rfl : k = N := by omega
          have hle : (k : Int) ≤ (k : Int) := Int.le_refl _
          have hF : opFun 3 a (k : Int) = a * 2 ^ k := by simp [opFun]
          rw [hF]
          obtain ⟨p, hpe⟩ : ∃ p : Int, (2 : Int) ^ k = p := ⟨_, rfl⟩
          rw [hpe] at hp ⊢
          rw [hpe] at hF
          have HF := Lib.hid hF
          have HPE := Lib.hid hpe; clear hpe hF HPS
          obtain ⟨hp1, hp2⟩ := hp
          have hm := mul_in (a := a) (p := p) ha1 ha2 (by omega) hp2
          obtain ⟨hm1, hm2⟩ := hm
          go_wp2_with fail
          (with_reducible refine (rranged_any _ _).mono ?_)
          rintro e w1 ⟨rfl, rfl⟩
          go_wp2_with fail
          exact bodyPost_ret (v := .tuple #[.int .i64 (rangedP (a * p)).1, .int .i64 (rangedP (a * p)).2]) (by simp [results, Tryz.results42, go_sem]) rfl ⟨by rw [HF.out], rfl⟩
  · by_cases hbb : b < 0 ∨ 31 < b
    · have hR : rangedC (opRaw 4 a b) = (0, 2) := by simp [opRaw, hbb, rangedC]
      rw [hR]
      clear hR
      rcases hbb with h | h
      · go_enter Tryz.func42, Tryz.ntmps42
        go_wp2_with fail
        exact bodyPost_ret (v := .tuple #[.int .i64 0, .int .i64 2]) (by simp [results, Tryz.results42, go_sem]) rfl ⟨rfl, rfl⟩
      · have h0 : ¬ b < 0 := by omega
        go_enter Tryz.func42, Tryz.ntmps42
        go_wp2_with fail
        exact bodyPost_ret (v := .tuple #[.int .i64 0, .int .i64 2]) (by simp [results, Tryz.results42, go_sem]) rfl ⟨rfl, rfl⟩
    · have hR : rangedC (opRaw 4 a b) = rangedP (opFun 4 a b) := by simp [opRaw, hbb, ranged_code]
      rw [hR]
      clear hR
      obtain ⟨N, rfl⟩ : ∃ N : Nat, b = N := ⟨b.toNat, by omega⟩
      have hN : N ≤ 31 := by omega
      have hN1 : ¬ (N : Int) < 0 := by omega
      have hN2 : ¬ (31 : Int) < (N : Int) := by omega
      clear hbb
      go_enter Tryz.func42, Tryz.ntmps42
      go_wp2_with fail
      go_loop [8, 9] (fun p i => ∃ k : Nat, k ≤ N ∧ i = .int .i64 k ∧ p = .int .i64 (2 ^ k)) (fun _ i => N - (intOf i).toNat)
      case atStart => exact ⟨0, Nat.zero_le _, rfl, rfl⟩
      case round =>
        obtain ⟨k, hk, rfl, rfl⟩ := hrel
        have hp := pow31 (k : Int) (by omega) (by omega)
        rw [Int.toNat_natCast] at hp
        have hps : (2 : Int) ^ (k + 1) = 2 * 2 ^ k := by rw [Int.pow_succ]; omega
        have HPS := Lib.hid hps; clear hps
        by_cases hlt : k < N
        · have hlt' : (k : Int) < (N : Int) := by omega
          obtain ⟨p, hpe⟩ : ∃ p : Int, (2 : Int) ^ k = p := ⟨_, rfl⟩
          rw [hpe] at hp HPS ⊢
          have HPE := Lib.hid hpe; clear hpe
          obtain ⟨hp1, hp2⟩ := hp
          go_wp2_with fail
          go_round
          case rel => exact ⟨k + 1, by omega, by go_num, by rw [HPS.out]⟩
          case measure => simp [intOf]; omega
        · obtain rfl : k = N := by omega
          have hle : (k : Int) ≤ (k : Int) := Int.le_refl _
          have hF : opFun 4 a (k : Int) = a / 2 ^ k := by simp [opFun]
          rw [hF]
          obtain ⟨p, hpe⟩ : ∃ p : Int, (2 : Int) ^ k = p := ⟨_, rfl⟩
          rw [hpe] at hp ⊢
          clear HPS
          obtain ⟨hp1, hp2⟩ := hp
          have hd := tdiv_in (a := a) (b := p) ha1 ha2
          have hfl := div_fix a p (by omega)
          have hdiv := div_small a p hp1 ha1 ha2
          have hfin : rangedP (opFun 4 a (k : Int)) = (a / p, 0) := by rw [hF, hpe, rangedP_same hdiv.1 hdiv.2]
          have hzp : (p == 0) = false := by rw [beq_eq_false_iff_ne]; omega
          have hmm : -8000000000 ≤ a.tdiv p * p ∧ a.tdiv p * p ≤ 8000000000 := by
            have h1 : (a.tmod p).natAbs ≤ a.natAbs := by rw [Int.natAbs_tmod]; exact Nat.mod_le _ _
            have h2 : a.tmod p = a - a.tdiv p * p := by rw [Int.tmod_def, Int.mul_comm]
            omega
          obtain ⟨hd1, hd2⟩ := hd
          obtain ⟨hm1, hm2⟩ := hmm
          have HFL := Lib.hid hfl; clear hfl hdiv
          obtain ⟨D, hD⟩ : ∃ D, a / p = D := ⟨_, rfl⟩
          rw [hD] at HFL hfin
          have HFIN := Lib.hid hfin
          clear hD hfin hF hpe
          by_cases hgt : a < a.tdiv p * p
          · have hr := HFL.out
            rw [if_pos hgt] at hr
            have HR := Lib.hid hr; clear hr HFL
            go_wp2_with fail
            exact bodyPost_ret (v := .tuple #[.int .i64 (a.tdiv p - 1), .int .i64 0]) (by simp [results, Tryz.results42, go_sem]) rfl ⟨by rw [HFIN.out, HR.out], rfl⟩
          · have hr := HFL.out
            rw [if_neg hgt] at hr
            have HR := Lib.hid hr; clear hr HFL
            go_wp2_with fail
            exact bodyPost_ret (v := .tuple #[.int .i64 (a.tdiv p), .int .i64 0]) (by simp [results, Tryz.results42, go_sem]) rfl ⟨by rw [HFIN.out, HR.out], rfl⟩
  · show Calls _ _ _ _ (PairRes (rangedP (a + b)) w)
    go_enter Tryz.func42, Tryz.ntmps42
    go_wp2_with fail
    (with_reducible refine (rranged_any _ _).mono ?_)
    rintro e w1 ⟨rfl, rfl⟩
    go_wp2_with fail
    exact bodyPost_ret (v := .tuple #[.int .i64 (rangedP (a + b)).1, .int .i64 (rangedP (a + b)).2]) (by simp [results, Tryz.results42, go_sem]) rfl ⟨rfl, rfl⟩
  · show Calls _ _ _ _ (PairRes (rangedP (a - b)) w)
    go_enter Tryz.func42, Tryz.ntmps42
    go_wp2_with fail
    (with_reducible refine (rranged_any _ _).mono ?_)
    rintro e w1 ⟨rfl, rfl⟩
    go_wp2_with fail
    exact bodyPost_ret (v := .tuple #[.int .i64 (rangedP (a - b)).1, .int .i64 (rangedP (a - b)).2]) (by simp [results, Tryz.results42, go_sem]) rfl ⟨rfl, rfl⟩
  · show Calls _ _ _ _ (PairRes (rangedP (a * b)) w)
    have hm := mul_in ha1 ha2 hb1 (by omega)
    go_enter Tryz.func42, Tryz.ntmps42
    go_wp2_with fail
    (with_reducible refine (rranged_any _ _).mono ?_)
    rintro e w1 ⟨rfl, rfl⟩
    go_wp2_with fail
    exact bodyPost_ret (v := .tuple #[.int .i64 (rangedP (a * b)).1, .int .i64 (rangedP (a * b)).2]) (by simp [results, Tryz.results42, go_sem]) rfl ⟨rfl, rfl⟩
  · by_cases hz : b = 0
    · subst hz
      show Calls _ _ _ _ (PairRes (0, 18) w)
      go_enter Tryz.func42, Tryz.ntmps42
      go_wp2_with fail
      exact bodyPost_ret (v := .tuple #[.int .i64 0, .int .i64 18]) (by simp [results, Tryz.results42, go_sem]) rfl ⟨rfl, rfl⟩
    · have hR : rangedC (opRaw 8 a b) = rangedP (a.tdiv b) := by simp [opRaw, hz, opFun, ranged_code]
      rw [hR]
      have hzb : (b == 0) = false := by simpa using hz
      have hw : wrap64 (a.tdiv b) = a.tdiv b := by have := tdiv_in (b := b) ha1 ha2; simp only [wrap64]; omega
      have HW := Lib.hid hw; clear hw hR
      go_enter Tryz.func42, Tryz.ntmps42
      go_wp2_with fail
      refine (rranged_any _ _).mono ?_
      rintro e w1 ⟨rfl, rfl⟩
      go_wp2_with fail
      exact bodyPost_ret (v := .tuple #[.int .i64 (rangedP (wrap64 (a.tdiv b))).1, .int .i64 (rangedP (wrap64 (a.tdiv b))).2]) (by simp [results, Tryz.results42, go_sem]) rfl ⟨by rw [HW.out], rfl⟩
  · by_cases hz : b = 0
    · subst hz
      show Calls _ _ _ _ (PairRes (0, 18) w)
      go_enter Tryz.func42, Tryz.ntmps42
      go_wp2_with fail
      exact bodyPost_ret (v := .tuple #[.int .i64 0, .int .i64 18]) (by simp [results, Tryz.results42, go_sem]) rfl ⟨rfl, rfl⟩
    · have hR : rangedC (opRaw 9 a b) = (a.tmod b, 0) := by
        have h1 : (a.tmod b).natAbs ≤ a.natAbs := by rw [Int.natAbs_tmod]; exact Nat.mod_le _ _
        have h0 : a < 0 → a.tmod b ≤ 0 := fun h => by
          have h3 := Int.tmod_nonneg (a := -a) b (by omega)
          rw [Int.neg_tmod] at h3
          omega
        have h00 : 0 ≤ a → 0 ≤ a.tmod b := fun h => Int.tmod_nonneg b h
        have h2 : opRaw 9 a b = (a.tmod b, 0) := by simp [opRaw, hz, opFun]
        rw [h2, ranged_code _ rfl]
        exact rangedP_same (by omega) (by omega)
      rw [hR]
      have hzb : (b == 0) = false := by simpa using hz
      have hd := tdiv_in (b := b) ha1 ha2
      have hm := mul_in (a := b) (p := a.tdiv b) hb1 hb2 hd.1 hd.2
      rw [Int.mul_comm] at hm
      have htm : a.tmod b = a - a.tdiv b * b := by rw [Int.tmod_def, Int.mul_comm]
      have HTM := Lib.hid htm; clear htm hR
      have hq : (a.tdiv b * b).natAbs ≤ 2 * a.natAbs := by
        have h1 : (a.tmod b).natAbs ≤ a.natAbs := by rw [Int.natAbs_tmod]; exact Nat.mod_le _ _
        have := HTM.out
        omega
      obtain ⟨hd1, hd2⟩ := hd
      obtain ⟨hm1, hm2⟩ := hm
      have hs1 : -8000000000 ≤ a - a.tdiv b * b := by have := hq; omega
      have hs2 : a - a.tdiv b * b ≤ 8000000000 := by have := hq; omega
      clear hq
      go_enter Tryz.func42, Tryz.ntmps42
      go_wp2_with fail
      exact bodyPost_ret (v := .tuple #[.int .i64 (a - a.tdiv b * b), .int .i64 0]) (by simp [results, Tryz.results42, go_sem]) rfl ⟨by rw [HTM.out], rfl⟩
end Go.Proofs.YtpkbonfbehhbdaaGreatDoor

/- breadboardref17.Eval. -/
namespace Go.Proofs.YtpkbonfbehhbdaaGreatDoor
open Go.RowKit Go.Sort

theorem reval_nil (here : Int) (m : Value) (w : World) : Calls Tryz.prog 19 #[.pointer none, .int .i64 here, m] w (EvRes (0, 1) w) := by
  go_enter Tryz.func19, Tryz.ntmps19
  go_wp2_with fail
  exact bodyPost_ret (v := .tuple #[.int .i64 0, .int .i64 1]) (by simp [results, Tryz.results19, go_sem]) rfl ⟨rfl, by (repeat (first | exact Below.refl _ _ | refine Below.drew ?_ | (refine below_gw' ?_ (by first | omega | (simp [go_sem]; done) | (simp [go_sem]; omega)) _) | (refine Below.alloc ?_ (by first | omega | (simp [go_sem]; done) | (simp [go_sem]; omega)) _) | (refine Below.setCell ?_ (by first | omega | (simp [go_sem]; done) | (simp [go_sem]; omega)) _)))⟩
set_option maxHeartbeats 4000000 in
set_option maxRecDepth 100000 in
theorem reval_any (l : List (ByteArray × Int)) (here : Int) (hl : l.length ≤ 1000000) (he : ∀ s n, envL l s = some n → -2147483648 ≤ n ∧ n ≤ 2147483647) (hh : -2147483648 ≤ here ∧ here ≤ 2147483647) (m : Value) :
    ∀ (x : Ex), x.good → ∀ (v : Value) (w : World), NodeAt 78 0 w x v → Row w m l.length (valc l) → Calls Tryz.prog 19 #[v, .int .i64 here, m] w (EvRes (x.eval (envL l) here) w)
  | .num n, hg, v, w, hn, hm => by
    obtain ⟨g, _, rfl, hb⟩ := hn
    obtain ⟨hlt, c0, c1, c2, c3, c4⟩ := node_cells hb
    clear hm hb he
    go_enter Tryz.func19, Tryz.ntmps19
    go_wp2_with fail
    exact bodyPost_ret (v := .tuple #[.int .i64 n, .int .i64 0]) (by simp [results, Tryz.results19, go_sem, *]) rfl ⟨rfl, by (repeat (first | exact Below.refl _ _ | refine Below.drew ?_ | (refine below_gw' ?_ (by first | omega | (simp [go_sem]; done) | (simp [go_sem]; omega)) _) | (refine Below.alloc ?_ (by first | omega | (simp [go_sem]; done) | (simp [go_sem]; omega)) _) | (refine Below.setCell ?_ (by first | omega | (simp [go_sem]; done) | (simp [go_sem]; omega)) _)))⟩
  | .sym s, hg, v, w, hn, hm => by
    obtain ⟨g, _, rfl, hb⟩ := hn
    obtain ⟨hlt, c0, c1, c2, c3, c4⟩ := node_cells hb
    have hlk := rfind_any l s m w hm hl
    clear hm hb he
    unfold Ex.eval
    rcases hs : envL l s with _ | n
    · rw [hs] at hlk
      simp only [Option.getD_none, Option.isSome_none] at hlk
      have HLK := Lib.hid hlk; clear hs hlk
      go_enter Tryz.func19, Tryz.ntmps19
      go_wp2_with fail
      (with_reducible refine HLK.out.mono ?_)
      rintro e w1 ⟨rfl, hb1⟩
      obtain ⟨p1, rfl⟩ := gw_of_below hb1
      clear hb1
      go_wp2_with fail
      exact bodyPost_ret (v := .tuple #[.int .i64 0, .int .i64 13]) (by simp [results, Tryz.results19, go_sem, *]) rfl ⟨rfl, by (repeat (first | exact Below.refl _ _ | refine Below.drew ?_ | (refine below_gw' ?_ (by first | omega | (simp [go_sem]; done) | (simp [go_sem]; omega)) _) | (refine Below.alloc ?_ (by first | omega | (simp [go_sem]; done) | (simp [go_sem]; omega)) _) | (refine Below.setCell ?_ (by first | omega | (simp [go_sem]; done) | (simp [go_sem]; omega)) _)))⟩
    · rw [hs] at hlk
      simp only [Option.getD_some, Option.isSome_some] at hlk
      have HLK := Lib.hid hlk; clear hs hlk
      go_enter Tryz.func19, Tryz.ntmps19
      go_wp2_with fail
      (with_reducible refine HLK.out.mono ?_)
      rintro e w1 ⟨rfl, hb1⟩
      obtain ⟨p1, rfl⟩ := gw_of_below hb1
      clear hb1
      go_wp2_with fail
      exact bodyPost_ret (v := .tuple #[.int .i64 n, .int .i64 0]) (by simp [results, Tryz.results19, go_sem, *]) rfl ⟨rfl, by (repeat (first | exact Below.refl _ _ | refine Below.drew ?_ | (refine below_gw' ?_ (by first | omega | (simp [go_sem]; done) | (simp [go_sem]; omega)) _) | (refine Below.alloc ?_ (by first | omega | (simp [go_sem]; done) | (simp [go_sem]; omega)) _) | (refine Below.setCell ?_ (by first | omega | (simp [go_sem]; done) | (simp [go_sem]; omega)) _)))⟩
  | .here, hg, v, w, hn, hm => by
    obtain ⟨g, _, rfl, hb⟩ := hn
    obtain ⟨hlt, c0, c1, c2, c3, c4⟩ := node_cells hb
    clear hm hb he
    go_enter Tryz.func19, Tryz.ntmps19
    go_wp2_with fail
    exact bodyPost_ret (v := .tuple #[.int .i64 here, .int .i64 0]) (by simp [results, Tryz.results19, go_sem, *]) rfl ⟨rfl, by (repeat (first | exact Below.refl _ _ | refine Below.drew ?_ | (refine below_gw' ?_ (by first | omega | (simp [go_sem]; done) | (simp [go_sem]; omega)) _) | (refine Below.alloc ?_ (by first | omega | (simp [go_sem]; done) | (simp [go_sem]; omega)) _) | (refine Below.setCell ?_ (by first | omega | (simp [go_sem]; done) | (simp [go_sem]; omega)) _)))⟩
  | .un op a, hg, v, w, hn, hm => by
    obtain ⟨g, va, _, rfl, hb, ha⟩ := hn
    obtain ⟨hlt, c0, c1, c2, c3, c4⟩ := node_cells hb
    have ih := reval_any l here hl he hh m a hg.2 va w ha hm
    have hin := eval_in (envL l) here he hh a hg.2
    obtain ⟨ga, rfl, hga⟩ := ha.ptr
    unfold Ex.eval
    generalize a.eval (envL l) here = r at ih hin ⊢
    obtain ⟨x, c⟩ := r
    dsimp only at hin
    obtain ⟨hi1, hi2⟩ := hin
    have hop := hg.1
    have IH := Lib.hid ih; clear ih hm hb he ha hg
    by_cases hc : c = 0
    · subst hc
      rw [if_pos rfl]
      have htst : (op.toList == [45]) = true ∧ unEval op x = -x ∨ (op.toList == [45]) = false ∧ (op.toList == [126]) = true ∧ unEval op x = -x - 1 ∨ (op.toList == [45]) = false ∧ (op.toList == [126]) = false ∧ unEval op x = x := by
        rcases hop with h | h | h <;> simp [unEval, h]
      clear hop
      rcases htst with ⟨h1, hu⟩ | ⟨h1, h2, hu⟩ | ⟨h1, h2, hu⟩
      · rw [hu]
        clear hu
        go_enter Tryz.func19, Tryz.ntmps19
        go_wp2_with fail
        (with_reducible refine IH.out.mono ?_)
        rintro e w1 ⟨rfl, hb1⟩
        obtain ⟨p1, rfl⟩ := gw_of_below hb1
        clear hb1
        go_wp2_with fail
        (with_reducible refine (rranged_any _ _).mono ?_)
        rintro e w2 ⟨rfl, rfl⟩
        go_wp2_with fail
        exact bodyPost_ret (v := .tuple #[.int .i64 (rangedP (-x)).1, .int .i64 (rangedP (-x)).2]) (by simp [results, Tryz.results19, go_sem, *]) rfl ⟨rfl, by (repeat (first | exact Below.refl _ _ | refine Below.drew ?_ | (refine below_gw' ?_ (by first | omega | (simp [go_sem]; done) | (simp [go_sem]; omega)) _) | (refine Below.alloc ?_ (by first | omega | (simp [go_sem]; done) | (simp [go_sem]; omega)) _) | (refine Below.setCell ?_ (by first | omega | (simp [go_sem]; done) | (simp [go_sem]; omega)) _)))⟩
      · rw [hu]
        clear hu
        go_enter Tryz.func19, Tryz.ntmps19
        go_wp2_with fail
        (with_reducible refine IH.out.mono ?_)
        rintro e w1 ⟨rfl, hb1⟩
        obtain ⟨p1, rfl⟩ := gw_of_below hb1
        clear hb1
        go_wp2_with fail
        (with_reducible refine (rranged_any _ _).mono ?_)
        rintro e w2 ⟨rfl, rfl⟩
        go_wp2_with fail
        exact bodyPost_ret (v := .tuple #[.int .i64 (rangedP (-x - 1)).1, .int .i64 (rangedP (-x - 1)).2]) (by simp [results, Tryz.results19, go_sem, *]) rfl ⟨rfl, by (repeat (first | exact Below.refl _ _ | refine Below.drew ?_ | (refine below_gw' ?_ (by first | omega | (simp [go_sem]; done) | (simp [go_sem]; omega)) _) | (refine Below.alloc ?_ (by first | omega | (simp [go_sem]; done) | (simp [go_sem]; omega)) _) | (refine Below.setCell ?_ (by first | omega | (simp [go_sem]; done) | (simp [go_sem]; omega)) _)))⟩
      · rw [hu, rangedP_same hi1 hi2]
        clear hu
        go_enter Tryz.func19, Tryz.ntmps19
        go_wp2_with fail
        (with_reducible refine IH.out.mono ?_)
        rintro e w1 ⟨rfl, hb1⟩
        obtain ⟨p1, rfl⟩ := gw_of_below hb1
        clear hb1
        go_wp2_with fail
        exact bodyPost_ret (v := .tuple #[.int .i64 x, .int .i64 0]) (by simp [results, Tryz.results19, go_sem, *]) rfl ⟨rfl, by (repeat (first | exact Below.refl _ _ | refine Below.drew ?_ | (refine below_gw' ?_ (by first | omega | (simp [go_sem]; done) | (simp [go_sem]; omega)) _) | (refine Below.alloc ?_ (by first | omega | (simp [go_sem]; done) | (simp [go_sem]; omega)) _) | (refine Below.setCell ?_ (by first | omega | (simp [go_sem]; done) | (simp [go_sem]; omega)) _)))⟩
    · have hcb : (c == 0) = false := by simpa using hc
      have hcn : (c != 0) = true := by simpa using hc
      rw [if_neg hc]
      clear hop
      go_enter Tryz.func19, Tryz.ntmps19
      go_wp2_with fail
      (with_reducible refine IH.out.mono ?_)
      rintro e w1 ⟨rfl, hb1⟩
      obtain ⟨p1, rfl⟩ := gw_of_below hb1
      clear hb1
      go_wp2_with fail
      exact bodyPost_ret (v := .tuple #[.int .i64 0, .int .i64 c]) (by simp [results, Tryz.results19, go_sem, *]) rfl ⟨rfl, by (repeat (first | exact Below.refl _ _ | refine Below.drew ?_ | (refine below_gw' ?_ (by first | omega | (simp [go_sem]; done) | (simp [go_sem]; omega)) _) | (refine Below.alloc ?_ (by first | omega | (simp [go_sem]; done) | (simp [go_sem]; omega)) _) | (refine Below.setCell ?_ (by first | omega | (simp [go_sem]; done) | (simp [go_sem]; omega)) _)))⟩
  | .bin op a b, hg, v, w, hn, hm => by
    obtain ⟨g, va, vb, _, rfl, hb, ha, hbb⟩ := hn
    obtain ⟨hlt, c0, c1, c2, c3, c4⟩ := node_cells hb
    have ih := reval_any l here hl he hh m a hg.2.1 va w ha hm
    have ihb := fun w' (h : Below w.heap.size w w') => reval_any l here hl he hh m b hg.2.2 vb w' (hbb.below h) (hm.below h)
    have hin := eval_in (envL l) here he hh a hg.2.1
    have hinb := eval_in (envL l) here he hh b hg.2.2
    obtain ⟨ga, rfl, hga⟩ := ha.ptr
    obtain ⟨gb, rfl, hgb⟩ := hbb.ptr
    unfold Ex.eval
    generalize a.eval (envL l) here = r at ih hin ⊢
    generalize b.eval (envL l) here = rb at ihb hinb ⊢
    obtain ⟨x, c⟩ := r
    obtain ⟨y, d⟩ := rb
    dsimp only at hin hinb
    have hop := hg.1
    have IH := Lib.hid ih; clear ih hm he ha hg
    have IHB := Lib.hid ihb; clear ihb hbb hb
    have hlt1 : ∀ p : Regrown, g < w.heap.size + p.os.size := fun p => by omega
    by_cases hc : c = 0
    · subst hc
      rw [if_pos rfl]
      by_cases hd : d = 0
      · subst hd
        rw [if_pos rfl]
        obtain ⟨i, hi⟩ : ∃ i, opIdx op = some i := by
          rw [opLv_eq] at hop
          rcases h : opIdx op with _ | i
          · rw [h] at hop; exact absurd rfl hop
          · exact ⟨i, rfl⟩
        have happ := fun w => rapply_any op i hi x y w hin hinb
        generalize opEval op x y = R at happ ⊢
        have HAPP := Lib.hid happ; clear happ hi hop hin hinb
        go_enter Tryz.func19, Tryz.ntmps19
        go_wp2_with fail
        (with_reducible refine IH.out.mono ?_)
        rintro e w1 ⟨rfl, hb1⟩
        obtain ⟨p1, rfl⟩ := gw_of_below hb1
        clear hb1
        have hg1 := hlt1 p1
        go_wp2_with fail
        (with_reducible refine (IHB.out _ (by (repeat (first | exact Below.refl _ _ | refine Below.drew ?_ | (refine below_gw' ?_ (by first | omega | (simp [go_sem]; done) | (simp [go_sem]; omega)) _) | (refine Below.alloc ?_ (by first | omega | (simp [go_sem]; done) | (simp [go_sem]; omega)) _) | (refine Below.setCell ?_ (by first | omega | (simp [go_sem]; done) | (simp [go_sem]; omega)) _))))).mono ?_)
        rintro e w2 ⟨rfl, hb2⟩
        obtain ⟨p2, rfl⟩ := gw_of_below hb2
        clear hb2
        have hg2 : g < w.heap.size + p1.os.size + p2.os.size := by omega
        go_wp2_with fail
        (with_reducible refine (HAPP.out _).mono ?_)
        rintro e w3 ⟨rfl, rfl⟩
        go_wp2_with fail
        exact bodyPost_ret (v := .tuple #[.int .i64 R.1, .int .i64 R.2]) (by simp [results, Tryz.results19, go_sem, *]) rfl ⟨rfl, by (repeat (first | exact Below.refl _ _ | refine Below.drew ?_ | (refine below_gw' ?_ (by first | omega | (simp [go_sem]; done) | (simp [go_sem]; omega)) _) | (refine Below.alloc ?_ (by first | omega | (simp [go_sem]; done) | (simp [go_sem]; omega)) _) | (refine Below.setCell ?_ (by first | omega | (simp [go_sem]; done) | (simp [go_sem]; omega)) _)))⟩
      · have hcb : (d == 0) = false := by simpa using hd
        have hcn : (d != 0) = true := by simpa using hd
        rw [if_neg hd]
        clear hop hin hinb
        go_enter Tryz.func19, Tryz.ntmps19
        go_wp2_with fail
        (with_reducible refine IH.out.mono ?_)
        rintro e w1 ⟨rfl, hb1⟩
        obtain ⟨p1, rfl⟩ := gw_of_below hb1
        clear hb1
        have hg1 := hlt1 p1
        go_wp2_with fail
        (with_reducible refine (IHB.out _ (by (repeat (first | exact Below.refl _ _ | refine Below.drew ?_ | (refine below_gw' ?_ (by first | omega | (simp [go_sem]; done) | (simp [go_sem]; omega)) _) | (refine Below.alloc ?_ (by first | omega | (simp [go_sem]; done) | (simp [go_sem]; omega)) _) | (refine Below.setCell ?_ (by first | omega | (simp [go_sem]; done) | (simp [go_sem]; omega)) _))))).mono ?_)
        rintro e w2 ⟨rfl, hb2⟩
        obtain ⟨p2, rfl⟩ := gw_of_below hb2
        clear hb2
        go_wp2_with fail
        exact bodyPost_ret (v := .tuple #[.int .i64 0, .int .i64 d]) (by simp [results, Tryz.results19, go_sem, *]) rfl ⟨rfl, by (repeat (first | exact Below.refl _ _ | refine Below.drew ?_ | (refine below_gw' ?_ (by first | omega | (simp [go_sem]; done) | (simp [go_sem]; omega)) _) | (refine Below.alloc ?_ (by first | omega | (simp [go_sem]; done) | (simp [go_sem]; omega)) _) | (refine Below.setCell ?_ (by first | omega | (simp [go_sem]; done) | (simp [go_sem]; omega)) _)))⟩
    · have hcb : (c == 0) = false := by simpa using hc
      have hcn : (c != 0) = true := by simpa using hc
      rw [if_neg hc]
      clear hop hin hinb
      go_enter Tryz.func19, Tryz.ntmps19
      go_wp2_with fail
      (with_reducible refine IH.out.mono ?_)
      rintro e w1 ⟨rfl, hb1⟩
      obtain ⟨p1, rfl⟩ := gw_of_below hb1
      clear hb1
      go_wp2_with fail
      exact bodyPost_ret (v := .tuple #[.int .i64 0, .int .i64 c]) (by simp [results, Tryz.results19, go_sem, *]) rfl ⟨rfl, by (repeat (first | exact Below.refl _ _ | refine Below.drew ?_ | (refine below_gw' ?_ (by first | omega | (simp [go_sem]; done) | (simp [go_sem]; omega)) _) | (refine Below.alloc ?_ (by first | omega | (simp [go_sem]; done) | (simp [go_sem]; omega)) _) | (refine Below.setCell ?_ (by first | omega | (simp [go_sem]; done) | (simp [go_sem]; omega)) _)))⟩
end Go.Proofs.YtpkbonfbehhbdaaGreatDoor
