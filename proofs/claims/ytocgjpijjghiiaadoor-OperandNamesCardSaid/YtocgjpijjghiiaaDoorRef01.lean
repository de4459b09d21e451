/- breadboardref01: Hex, Text, Upper: the same words as num's. -/
import Derived.Test.YtocgjpijjghiiaaDoorNumText
namespace Go.Proofs.YtocgjpijjghiiaaDoor
open Go.RowKit Go.Sort

def hexUp (d : Nat) : UInt8 := if d < 10 then UInt8.ofNat (48 + d) else UInt8.ofNat (55 + d)
/-- The last i digits of n to the base 16. -/
def hx : Nat → Nat → List UInt8
  | 0, _ => []
  | i + 1, n => hexUp (n / 16 ^ i % 16) :: hx i n

theorem hx_len : ∀ i n, (hx i n).length = i
  | 0, _ => rfl
  | i + 1, n => by simp [hx, hx_len i n]
theorem hx_snoc : ∀ (i n : Nat), hx (i + 1) n = hx i (n / 16) ++ [hexUp (n % 16)]
  | 0, n => by simp [hx]
  | i + 1, n => by
    rw [hx, hx_snoc i n, hx, Nat.div_div_eq_div_mul, Nat.pow_succ, Nat.mul_comm (16 ^ i) 16]
    rfl
theorem hx_zero : ∀ i, hx i 0 = List.replicate i 48
  | 0 => rfl
  | i + 1 => by rw [hx, hx_zero i, Nat.zero_div]; rfl
theorem up_hexLow : ∀ d : Fin 16, up (hexLow d.val) = hexUp d.val := by decide
theorem hexUp_ne : ∀ d : Fin 16, d.val ≠ 0 → (hexUp d.val ≠ 48 ∧ ((hexUp d.val).toNat ≤ 57 ∨ 65 ≤ (hexUp d.val).toNat)) := by decide

theorem hx_digs : ∀ (f n : Nat), 1 ≤ n → n < 16 ^ f → hx f n = List.replicate (f - (hexDigs f n).length) 48 ++ (hexDigs f n).map up ∧ ∃ c t, (hexDigs f n).map up = c :: t ∧ (c ≠ 48 ∧ (c.toNat ≤ 57 ∨ 65 ≤ c.toNat))
  | 0, n, h1, h2 => by simp at h2; omega
  | f + 1, n, h1, h2 => by
    rw [hx_snoc]
    by_cases h : n < 16
    · rw [hexDigs_small f n h, Nat.div_eq_of_lt h, hx_zero, Nat.mod_eq_of_lt h]
      refine ⟨by simp [up_hexLow ⟨n, h⟩], up (hexLow n), [], rfl, ?_⟩
      rw [up_hexLow ⟨n, h⟩]
      exact hexUp_ne ⟨n, h⟩ (by show n ≠ 0; omega)
    · obtain ⟨h3, c, t, h4, h5⟩ := hx_digs f (n / 16) (by omega) (by rw [Nat.pow_succ] at h2; omega)
      have hy : n % 16 < 16 := by omega
      rw [hexDigs_big f n (by omega), h3]
      refine ⟨?_, c, t ++ [up (hexLow (n % 16))], by rw [List.map_append, h4]; rfl, h5⟩
      have hu := up_hexLow ⟨n % 16, hy⟩
      simp only at hu
      rw [List.map_append, List.length_append, List.map_cons, List.map_nil, hu, List.append_assoc]
      simp

/-- The length of a string in a slot: for a loop's measure. -/
def strLen : Value → Nat | .string b => b.size | _ => 0

theorem hexExtract : ∀ d : Fin 16, (({ data := #[48, 49, 50, 51, 52, 53, 54, 55, 56, 57, 65, 66, 67, 68, 69, 70] } : ByteArray).extract d.val (d.val + 1)) = ⟨#[hexUp d.val]⟩ := by decide
theorem and15_i64 (u : Nat) (h : u < 9223372036854775808) : bits BinOp.and IntKind.i64 (u : Int) 15 = ((u % 16 : Nat) : Int) := by
  have h1 := bits_mask IntKind.i64 63 (by decide) (fun n h0 h1 => IntWalk.i64_in n (by omega)) 4 (by decide) u (by omega) (by omega)
  simpa using h1

set_option maxHeartbeats 1000000 in
theorem hex_any (n k : Nat) (w : World) (hn : n < 1000000) (hk : k ≤ 8) :
    Calls Tryd.prog 43 #[.int .i64 n, .int .i64 k] w fun e w' => e = .returned (.string ⟨(hx k n).toArray⟩) ∧ w = w' := by
  go_enter Tryd.func43, Tryd.ntmps43
  go_wp2
  go_loop [0, 5, 6, 7] (fun x s i _ => ∃ j : Nat, j ≤ k ∧ x = .int .i64 (n / 16 ^ j : Nat) ∧ s = .string ⟨(hx j n).toArray⟩ ∧ i = .int .i64 j) (fun _ _ i _ => k - (intOf i).toNat)
  case atStart => exact ⟨0, Nat.zero_le _, by simp, rfl, rfl⟩
  case round =>
    obtain ⟨j, hj, rfl, rfl, rfl⟩ := hrel
    obtain ⟨x, hx0⟩ : ∃ x, n / 16 ^ j = x := ⟨_, rfl⟩
    have hx1 : x ≤ n := by rw [← hx0]; exact Nat.div_le_self _ _
    obtain ⟨l, hl⟩ : ∃ l, hx j n = l := ⟨_, rfl⟩
    have hll : l.length ≤ 8 := by rw [← hl, hx_len]; omega
    rw [hx0, hl]
    have Hx0 := Lib.hid hx0; clear hx0
    have Hl := Lib.hid hl; clear hl
    by_cases hlt : j < k
    · have hb := and15_i64 x (by omega)
      obtain ⟨y, hy⟩ : ∃ y, x % 16 = y := ⟨_, rfl⟩
      have hy1 : y < 16 := by omega
      have hext := hexExtract ⟨y, hy1⟩
      simp only at hext
      rw [hy] at hb
      have Hy := Lib.hid hy; clear hy
      go_wp2
      go_round
      case rel =>
        refine ⟨j + 1, by omega, ?_, ?_, by go_num⟩
        · rw [Nat.pow_succ, ← Nat.div_div_eq_div_mul, Hx0.out]; go_num
        · rw [hx, Hx0.out, Hy.out, Hl.out]; rfl
      case measure => simp [intOf]; omega
    · obtain rfl : j = k := by omega
      go_wp2
      go_ret
      exact ⟨by rw [Hl.out]; rfl, rfl⟩

set_option maxHeartbeats 1000000 in
theorem ref01Text_any (n : Int) (w : World) :
    Calls Tryd.prog 30 #[.int .i64 n] w fun e w' => e = .returned (.string (numText n)) ∧ w = w' := by
  by_cases h0 : n < 0 ∨ 65535 < n
  · have hr : numText n = ⟨#[]⟩ := by unfold numText; rw [if_pos h0]
    rw [hr]
    rcases h0 with h0 | h0
    · go_enter Tryd.func30, Tryd.ntmps30
      go_wp2
      go_ret
      exact ⟨rfl, rfl⟩
    · have : 0 ≤ n := by omega
      go_enter Tryd.func30, Tryd.ntmps30
      go_wp2
      go_ret
      exact ⟨rfl, rfl⟩
  · obtain ⟨m, rfl⟩ := Int.eq_ofNat_of_zero_le (show 0 ≤ n by omega)
    have hf1 : m ≤ 65535 := by omega
    by_cases h9 : m ≤ 9
    · have hr : numText m = ⟨(hx 1 m).toArray⟩ := by
        have : m = 0 ∨ m = 1 ∨ m = 2 ∨ m = 3 ∨ m = 4 ∨ m = 5 ∨ m = 6 ∨ m = 7 ∨ m = 8 ∨ m = 9 := by omega
        rcases this with rfl | rfl | rfl | rfl | rfl | rfl | rfl | rfl | rfl | rfl <;> rfl
      rw [hr]
      clear h0
      go_enter Tryd.func30, Tryd.ntmps30
      go_wp2_with fail
      refine (hex_any m 1 _ (by omega) (by omega)).mono ?_
      rintro e w2 ⟨rfl, rfl⟩
      go_wp2_with fail
      go_ret
      exact ⟨rfl, rfl⟩
    · have hr : numText m = if 57 < ((upper ⟨(hexDigs 4 m).toArray⟩ ++ (⟨#[72]⟩ : ByteArray)).data[0]?.getD 0).toNat then (⟨#[48]⟩ : ByteArray) ++ (upper ⟨(hexDigs 4 m).toArray⟩ ++ (⟨#[72]⟩ : ByteArray)) else upper ⟨(hexDigs 4 m).toArray⟩ ++ (⟨#[72]⟩ : ByteArray) := by
        unfold numText
        rw [if_neg h0, if_neg (by omega)]
        rfl
      obtain ⟨hd, c, t, hct, hc, hc2⟩ := hx_digs 4 m (by omega) (by show m < 65536; omega)
      have hup : upper ⟨(hexDigs 4 m).toArray⟩ = ⟨(c :: t).toArray⟩ := by
        unfold upper; rw [← hct]
      have htl : t.length ≤ 3 := by
        have := hexDigs_len 4 m
        have h2 : ((hexDigs 4 m).map up).length = t.length + 1 := by rw [hct]; rfl
        rw [List.length_map] at h2; omega
      rw [hup] at hr
      rw [hct] at hd
      have hdl : (hx 4 m).length = 4 := hx_len 4 m
      generalize hq : 4 - (hexDigs 4 m).length = q at hd
      have hq4 : q ≤ 4 := by omega
      clear hup hct hq h0
      have Hr := Lib.hid hr; clear hr
      have Hc := Lib.hid hc; clear hc
      have Hc2 := Lib.hid hc2; clear hc2
      have Hdl := Lib.hid hdl; clear hdl
      have hX : (⟨(hx 4 m).toArray⟩ : ByteArray) = ⟨(List.replicate q 48 ++ c :: t).toArray⟩ := by rw [hd]
      clear hd
      have HX := Lib.hid hX; clear hX
      have h9i : ¬ (m : Int) < 10 := by omega
      go_enter Tryd.func30, Tryd.ntmps30
      go_wp2_with fail
      refine (hex_any m 4 _ (by omega) (by omega)).mono ?_
      rintro e w2 ⟨rfl, rfl⟩
      rw [HX.out]
      go_wp2_with fail
      go_loop [3] (fun s => ∃ j : Nat, j ≤ 4 ∧ s = .string ⟨(List.replicate j 48 ++ c :: t).toArray⟩) strLen
      case atStart => exact ⟨q, hq4, rfl⟩
      case round =>
        obtain ⟨j, hj, rfl⟩ := hrel
        rcases j with _ | j
        · go_wp2
          · rename_i h1
            exfalso
            have h2 : ((c.toNat : Int) == 48) = true := h1
            have h3 : (c.toNat : Int) = 48 := by simpa using h2
            exact Hc.out (UInt8.toNat_inj.1 (by show c.toNat = 48; omega))
          · go_ret
            refine ⟨?_, rfl⟩
            have h2 : (65 : Int) ≤ (c.toNat : Int) := by assumption
            rw [Hr.out, if_pos (by show 57 < c.toNat; omega), ByteArray.append_assoc]
            rfl
          · go_ret
            refine ⟨?_, rfl⟩
            have h2 : ¬ (65 : Int) ≤ (c.toNat : Int) := by
              intro h3
              have h4 : ((⟨(c :: t).toArray⟩ : ByteArray)[0]'(by show 0 < t.length + 1; omega)).toNat = c.toNat := rfl
              omega
            rw [Hr.out, if_neg (by show ¬ 57 < c.toNat; have := Hc2.out; omega)]
            rfl
        · go_wp2
          · have hx1 : ((⟨(List.replicate (j + 1) 48 ++ c :: t).toArray⟩ : ByteArray).extract 1 (j + 1 + (t.length + 1))) = ⟨(List.replicate j 48 ++ c :: t).toArray⟩ := by
              apply ByteArray.ext
              rw [ByteArray.data_extract]
              show ((48 :: (List.replicate j 48 ++ c :: t)).toArray.extract 1 (j + 1 + (t.length + 1))) = _
              rw [List.extract_toArray, List.extract_eq_take_drop]
              simp only [List.drop_succ_cons, List.drop_zero]
              rw [List.take_of_length_le (by simp; omega)]
            rw [hx1]
            go_round
            case rel => exact ⟨j, by omega, rfl⟩
            case measure => show (List.replicate j 48 ++ c :: t).toArray.size < (List.replicate (j + 1) 48 ++ c :: t).toArray.size; simp
          all_goals
            exfalso
            have h2 : (((48 : UInt8).toNat : Int) == 48) = false := by assumption
            exact absurd h2 (by decide)
end Go.Proofs.YtocgjpijjghiiaaDoor

