/- Joined texts: Ref01, RText17, Lex. -/
import Derived.Test.YtpkbonfbehhbdaaGreatDoorE02
import Derived.Test.YtpkbonfbehhbdaaGreatDoorE07
import Derived.Test.YtpkbonfbehhbdaaGreatDoorE11
/- breadboardref01: Hex, Text, Upper: the same words as num's. -/
namespace Go.Proofs.YtpkbonfbehhbdaaGreatDoor
open Go.RowKit Go.Sort

def hexUp (d : Nat) : UInt8 := if d < 10 then UInt8.ofNat (48 + d) else UInt8.ofNat (55 + d)
/-- The last i digits of n to the base 16. -/
def hx : Nat → Nat → List UInt8
  | 0, _ => []
  | i + 1, n => hexUp (n / 16 ^ i % 16) :: hx i n

theorem hx_len : ∀ i n, (hx i n).length = i
  | 0, _ => rfl
  | i + 1, n => by simp [hx, hx_len i n]
theorem hx_snoc : ∀ (i n : Nat), hx (i + 1) n = hx i (n / 16) ++ [hexUp (n % 16)]
  | 0, n => by simp [hx]
  | i + 1, n => by
    rw [hx, hx_snoc i n, hx, Nat.div_div_eq_div_mul, Nat.pow_succ, Nat.mul_comm (16 ^ i) 16]
    rfl
theorem hx_zero : ∀ i, hx i 0 = List.replicate i 48
  | 0 => rfl
  | i + 1 => by rw [hx, hx_zero i, Nat.zero_div]; rfl
theorem up_hexLow : ∀ d : Fin 16, up (hexLow d.val) = hexUp d.val := by decide
theorem hexUp_ne : ∀ d : Fin 16, d.val ≠ 0 → (hexUp d.val ≠ 48 ∧ ((hexUp d.val).toNat ≤ 57 ∨ 65 ≤ (hexUp d.val).toNat)) := by decide

theorem hx_digs : ∀ (f n : Nat), 1 ≤ n → n < 16 ^ f → hx f n = List.replicate (f - (hexDigs f n).length) 48 ++ (hexDigs f n).map up ∧ ∃ c t, (hexDigs f n).map up = c :: t ∧ (c ≠ 48 ∧ (c.toNat ≤ 57 ∨ 65 ≤ c.toNat))
  | 0, n, h1, h2 => by simp at h2; omega
  | f + 1, n, h1, h2 => by
    rw [hx_snoc]
    by_cases h : n < 16
    · rw [hexDigs_small f n h, Nat.div_eq_of_lt h, hx_zero, Nat.mod_eq_of_lt h]
      refine ⟨by simp [up_hexLow ⟨n, h⟩], up (hexLow n), [], rfl, ?_⟩
      rw [up_hexLow ⟨n, h⟩]
      exact hexUp_ne ⟨n, h⟩ (by show n ≠ 0; omega)
    · obtain ⟨h3, c, t, h4, h5⟩ := hx_digs f (n / 16) (by omega) (by rw [Nat.pow_succ] at h2; omega)
      have hy : n % 16 < 16 := by omega
      rw [hexDigs_big f n (by omega), h3]
      refine ⟨?_, c, t ++ [up (hexLow (n % 16))], by rw [List.map_append, h4]; rfl, h5⟩
      have hu := up_hexLow ⟨n % 16, hy⟩
      simp only at hu
      rw [List.map_append, List.length_append, List.map_cons, List.map_nil, hu, List.append_assoc]
      simp

/-- The length of a string in a slot: for a loop's measure. -/
def strLen : Value → Nat | .string b => b.size | _ => 0

theorem hexExtract : ∀ d : Fin 16, (({ data := #[48, 49, 50, 51, 52, 53, 54, 55, 56, 57, 65, 66, 67, 68, 69, 70] } : ByteArray).extract d.val (d.val + 1)) = ⟨#[hexUp d.val]⟩ := by decide
theorem and15_i64 (u : Nat) (h : u < 9223372036854775808) : bits BinOp.and IntKind.i64 (u : Int) 15 = ((u % 16 : Nat) : Int) := by
  have h1 := bits_mask IntKind.i64 63 (by decide) (fun n h0 h1 => IntWalk.i64_in n (by omega)) 4 (by decide) u (by omega) (by omega)
  simpa using h1

set_option maxHeartbeats 1000000 in
theorem hex_any (n k : Nat) (w : World) (hn : n < 1000000) (hk : k ≤ 8) :
    Calls Tryz.prog 77 #[.int .i64 n, .int .i64 k] w fun e w' => e = .returned (.string ⟨(hx k n).toArray⟩) ∧ w = w' := by
  go_enter Tryz.func77, Tryz.ntmps77
  go_wp2
  go_loop [0, 5, 6, 7] (fun x s i _ => ∃ j : Nat, j ≤ k ∧ x = .int .i64 (n / 16 ^ j : Nat) ∧ s = .string ⟨(hx j n).toArray⟩ ∧ i = .int .i64 j) (fun _ _ i _ => k - (intOf i).toNat)
  case atStart => exact ⟨0, Nat.zero_le _, by simp, rfl, rfl⟩
  case round =>
    obtain ⟨j, hj, rfl, rfl, rfl⟩ := hrel
    obtain ⟨x, hx0⟩ : ∃ x, n / 16 ^ j = x := ⟨_, rfl⟩
    have hx1 : x ≤ n := by rw [← hx0]; exact Nat.div_le_self _ _
    obtain ⟨l, hl⟩ : ∃ l, hx j n = l := ⟨_, rfl⟩
    have hll : l.length ≤ 8 := by rw [← hl, hx_len]; omega
    rw [hx0, hl]
    have Hx0 := Lib.hid hx0; clear hx0
    have Hl := Lib.hid hl; clear hl
    by_cases hlt : j < k
    · have hb := and15_i64 x (by omega)
      obtain ⟨y, hy⟩ : ∃ y, x % 16 = y := ⟨_, rfl⟩
      have hy1 : y < 16 := by omega
      have hext := hexExtract ⟨y, hy1⟩
      simp only at hext
      rw [hy] at hb
      have Hy := Lib.hid hy; clear hy
      go_wp2
      go_round
      case rel =>
        refine ⟨j + 1, by omega, ?_, ?_, by go_num⟩
        · rw [Nat.pow_succ, ← Nat.div_div_eq_div_mul, Hx0.out]; go_num
        · rw [hx, Hx0.out, Hy.out, Hl.out]; rfl
      case measure => simp [intOf]; omega
    · obtain rfl : j = k := by omega
      go_wp2
      go_ret
      exact ⟨by rw [Hl.out]; rfl, rfl⟩

set_option maxHeartbeats 1000000 in
theorem ref01Text_any (n : Int) (w : World) :
    Calls Tryz.prog 44 #[.int .i64 n] w fun e w' => e = .returned (.string (numText n)) ∧ w = w' := by
  by_cases h0 : n < 0 ∨ 65535 < n
  · have hr : numText n = ⟨#[]⟩ := by unfold numText; rw [if_pos h0]
    rw [hr]
    rcases h0 with h0 | h0
    · go_enter Tryz.func44, Tryz.ntmps44
      go_wp2
      go_ret
      exact ⟨rfl, rfl⟩
    · have : 0 ≤ n := by omega
      go_enter Tryz.func44, Tryz.ntmps44
      go_wp2
      go_ret
      exact ⟨rfl, rfl⟩
  · obtain ⟨m, rfl⟩ := Int.eq_ofNat_of_zero_le (show 0 ≤ n by omega)
    have hf1 : m ≤ 65535 := by omega
    by_cases h9 : m ≤ 9
    · have hr : numText m = ⟨(hx 1 m).toArray⟩ := by
        have : m = 0 ∨ m = 1 ∨ m = 2 ∨ m = 3 ∨ m = 4 ∨ m = 5 ∨ m = 6 ∨ m = 7 ∨ m = 8 ∨ m = 9 := by omega
        rcases this with rfl | rfl | rfl | rfl | rfl | rfl | rfl | rfl | rfl | rfl <;> rfl
      rw [hr]
      clear h0
      go_enter Tryz.func44, Tryz.ntmps44
      go_wp2_with fail
      refine (hex_any m 1 _ (by omega) (by omega)).mono ?_
      rintro e w2 ⟨rfl, rfl⟩
      go_wp2_with fail
      go_ret
      exact ⟨rfl, rfl⟩
    · have hr : numText m = if 57 < ((upper ⟨(hexDigs 4 m).toArray⟩ ++ (⟨#[72]⟩ : ByteArray)).data[0]?.getD 0).toNat then (⟨#[48]⟩ : ByteArray) ++ (upper ⟨(hexDigs 4 m).toArray⟩ ++ (⟨#[72]⟩ : ByteArray)) else upper ⟨(hexDigs 4 m).toArray⟩ ++ (⟨#[72]⟩ : ByteArray) := by
        unfold numText
        rw [if_neg h0, if_neg (by omega)]
        rfl
      obtain ⟨hd, c, t, hct, hc, hc2⟩ := hx_digs 4 m (by omega) (by show m < 65536; omega)
      have hup : upper ⟨(hexDigs 4 m).toArray⟩ = ⟨(c :: t).toArray⟩ := by
        unfold upper; rw [← hct]
      have htl : t.length ≤ 3 := by
        have := hexDigs_len 4 m
        have h2 : ((hexDigs 4 m).map up).length = t.length + 1 := by rw [hct]; rfl
        rw [List.length_map] at h2; omega
      rw [hup] at hr
      rw [hct] at hd
      have hdl : (hx 4 m).length = 4 := hx_len 4 m
      generalize hq : 4 - (hexDigs 4 m).length = q at hd
      have hq4 : q ≤ 4 := by omega
      clear hup hct hq h0
      have Hr := Lib.hid hr; clear hr
      have Hc := Lib.hid hc; clear hc
      have Hc2 := Lib.hid hc2; clear hc2
      have Hdl := Lib.hid hdl; clear hdl
      have hX : (⟨(hx 4 m).toArray⟩ : ByteArray) = ⟨(List.replicate q 48 ++ c :: t).toArray⟩ := by rw [hd]
      clear hd
      have HX := Lib.hid hX; clear hX
      have h9i : ¬ (m : Int) < 10 := by omega
      go_enter Tryz.func44, Tryz.ntmps44
      go_wp2_with fail
      refine (hex_any m 4 _ (by omega) (by omega)).mono ?_
      rintro e w2 ⟨rfl, rfl⟩
      rw [HX.out]
      go_wp2_with fail
      go_loop [3] (fun s => ∃ j : Nat, j ≤ 4 ∧ s = .string ⟨(List.replicate j 48 ++ c :: t).toArray⟩) strLen
      case atStart => exact ⟨q, hq4, rfl⟩
      case round =>
        obtain ⟨j, hj, rfl⟩ := hrel
        rcases j with _ | j
        · go_wp2
          · rename_i h1
            exfalso
            have h2 : ((c.toNat : Int) == 48) = true := h1
            have h3 : (c.toNat : Int) = 48 := by simpa using h2
            exact Hc.out (UInt8.toNat_inj.1 (by show c.toNat = 48; omega))
          · go_ret
            refine ⟨?_, rfl⟩
            have h2 : (65 : Int) ≤ (c.toNat : Int) := by assumption
            rw [Hr.out, if_pos (by show 57 < c.toNat; omega), ByteArray.append_assoc]
            rfl
          · go_ret
            refine ⟨?_, rfl⟩
            have h2 : ¬ (65 : Int) ≤ (c.toNat : Int) := by
              intro h3
              have h4 : ((⟨(c :: t).toArray⟩ : ByteArray)[0]'(by show 0 < t.length + 1; omega)).toNat = c.toNat := rfl
              omega
            rw [Hr.out, if_neg (by show ¬ 57 < c.toNat; have := Hc2.out; omega)]
            rfl
        · go_wp2
          · have hx1 : ((⟨(List.replicate (j + 1) 48 ++ c :: t).toArray⟩ : ByteArray).extract 1 (j + 1 + (t.length + 1))) = ⟨(List.replicate j 48 ++ c :: t).toArray⟩ := by
              apply ByteArray.ext
              rw [ByteArray.data_extract]
              show ((48 :: (List.replicate j 48 ++ c :: t)).toArray.extract 1 (j + 1 + (t.length + 1))) = _
              rw [List.extract_toArray, List.extract_eq_take_drop]
              simp only [List.drop_succ_cons, List.drop_zero]
              rw [List.take_of_length_le (by simp; omega)]
            rw [hx1]
            go_round
            case rel => exact ⟨j, by omega, rfl⟩
            case measure => show (List.replicate j 48 ++ c :: t).toArray.size < (List.replicate (j + 1) 48 ++ c :: t).toArray.size; simp
          all_goals
            exfalso
            have h2 : (((48 : UInt8).toNat : Int) == 48) = false := by assumption
            exact absurd h2 (by decide)
end Go.Proofs.YtpkbonfbehhbdaaGreatDoor

/- breadboardref17.Text. -/
namespace Go.Proofs.YtpkbonfbehhbdaaGreatDoor
open Go.RowKit Go.Sort

set_option maxHeartbeats 1000000 in
theorem wrapped_any (c : Bool) (s : ByteArray) (w : World) (hs : s.size ≤ 100000000000000) : Calls Tryz.prog 45 #[.string s, .bool c] w fun e w' => e = .returned (.string (brk c s)) ∧ Below w.heap.size w w' := by
  cases c
  · rw [brk_f]
    go_enter Tryz.func45, Tryz.ntmps45
    go_wp2_with fail
    go_ret
    exact ⟨rfl, by (repeat (first | exact Below.refl _ _ | refine Below.drew ?_ | (refine below_gw' ?_ (by first | omega | (simp [go_sem]; done) | (simp [go_sem]; omega)) _) | (refine Below.alloc ?_ (by first | omega | (simp [go_sem]; done) | (simp [go_sem]; omega)) _) | (refine Below.setCell ?_ (by first | omega | (simp [go_sem]; done) | (simp [go_sem]; omega)) _)))⟩
  · rw [brk_t]
    go_enter Tryz.func45, Tryz.ntmps45
    go_wp2_with fail
    go_ret
    exact ⟨rfl, by (repeat (first | exact Below.refl _ _ | refine Below.drew ?_ | (refine below_gw' ?_ (by first | omega | (simp [go_sem]; done) | (simp [go_sem]; omega)) _) | (refine Below.alloc ?_ (by first | omega | (simp [go_sem]; done) | (simp [go_sem]; omega)) _) | (refine Below.setCell ?_ (by first | omega | (simp [go_sem]; done) | (simp [go_sem]; omega)) _)))⟩
set_option maxHeartbeats 4000000 in
set_option maxRecDepth 100000 in
theorem rtext17_any : ∀ (x : Ex), x.good → x.nodes ≤ 1000000 → ∀ (v : Value) (w : World), NodeAt 78 0 w x v → Calls Tryz.prog 21 #[v] w (StrRes x.text w)
  | .num n, hg, hnd, v, w, hn => by
    obtain ⟨g, _, rfl, hb⟩ := hn
    obtain ⟨hlt, c0, c1, c2, c3, c4⟩ := node_cells hb
    clear hb hg
    go_enter Tryz.func21, Tryz.ntmps21
    go_wp2_with fail
    (with_reducible refine (ref01Text_any n _).mono ?_)
    rintro e w1 ⟨rfl, rfl⟩
    go_wp2_with fail
    go_ret
    exact ⟨rfl, by (repeat (first | exact Below.refl _ _ | refine Below.drew ?_ | (refine below_gw' ?_ (by first | omega | (simp [go_sem]; done) | (simp [go_sem]; omega)) _) | (refine Below.alloc ?_ (by first | omega | (simp [go_sem]; done) | (simp [go_sem]; omega)) _) | (refine Below.setCell ?_ (by first | omega | (simp [go_sem]; done) | (simp [go_sem]; omega)) _)))⟩
  | .sym s, hg, hnd, v, w, hn => by
    obtain ⟨g, _, rfl, hb⟩ := hn
    obtain ⟨hlt, c0, c1, c2, c3, c4⟩ := node_cells hb
    clear hb hg
    go_enter Tryz.func21, Tryz.ntmps21
    go_wp2_with fail
    go_ret
    exact ⟨rfl, by (repeat (first | exact Below.refl _ _ | refine Below.drew ?_ | (refine below_gw' ?_ (by first | omega | (simp [go_sem]; done) | (simp [go_sem]; omega)) _) | (refine Below.alloc ?_ (by first | omega | (simp [go_sem]; done) | (simp [go_sem]; omega)) _) | (refine Below.setCell ?_ (by first | omega | (simp [go_sem]; done) | (simp [go_sem]; omega)) _)))⟩
  | .here, hg, hnd, v, w, hn => by
    obtain ⟨g, _, rfl, hb⟩ := hn
    obtain ⟨hlt, c0, c1, c2, c3, c4⟩ := node_cells hb
    clear hb hg
    go_enter Tryz.func21, Tryz.ntmps21
    go_wp2_with fail
    go_ret
    exact ⟨rfl, by (repeat (first | exact Below.refl _ _ | refine Below.drew ?_ | (refine below_gw' ?_ (by first | omega | (simp [go_sem]; done) | (simp [go_sem]; omega)) _) | (refine Below.alloc ?_ (by first | omega | (simp [go_sem]; done) | (simp [go_sem]; omega)) _) | (refine Below.setCell ?_ (by first | omega | (simp [go_sem]; done) | (simp [go_sem]; omega)) _)))⟩
  | .un op a, hg, hnd, v, w, hn => by
    obtain ⟨g, va, _, rfl, hb, ha⟩ := hn
    obtain ⟨hlt, c0, c1, c2, c3, c4⟩ := node_cells hb
    have hnd' : 1 + a.nodes ≤ 1000000 := hnd
    have hsa := text_size a hg.2
    have hso := un_size hg.1
    have hsb := brk_size (a.kd == 5) a.text
    have hS0 : a.text.size ≤ 100000000000000 := by omega
    have ih : ∀ w', Below w.heap.size w w' → Calls Tryz.prog 21 #[va] w' fun e w'' => e = .returned (.string a.text) ∧ Below w'.heap.size w' w'' := fun w' h => rtext17_any a hg.2 (by omega) va w' (ha.below h)
    have hwr := fun w => wrapped_any (a.kd == 5) a.text w hS0
    obtain ⟨ga, a3, a4, rfl, hga, d0, d1, d2, d3, d4, _, _⟩ := NodeAt.five ha
    have hS : (brk (a.kd == 5) a.text).size ≤ 4000000000000 := by omega
    show Calls _ _ _ _ (StrRes (op ++ brk (a.kd == 5) a.text) w)
    generalize brk (a.kd == 5) a.text = S at *
    generalize a.text = U at *
    generalize a.kd = k at *
    have HWR := Lib.hid hwr; clear hwr hnd hnd' hsa hsb
    have IH := Lib.hid ih; clear ih hb hg ha
    go_enter Tryz.func21, Tryz.ntmps21
    go_wp2_with fail
    refine wp_region_gw (by kernel_rfl) (by kernel_rfl) ?_
    repeat (go_big_quiet_step (first | (with_reducible (exact gw_quiet (IH.out _ (by (repeat (first | exact Below.refl _ _ | refine Below.drew ?_ | (refine below_gw' ?_ (by first | omega | (simp [go_sem]; done) | (simp [go_sem]; omega)) _) | (refine Below.alloc ?_ (by first | omega | (simp [go_sem]; done) | (simp [go_sem]; omega)) _) | (refine Below.setCell ?_ (by first | omega | (simp [go_sem]; done) | (simp [go_sem]; omega)) _))))))) | (with_reducible (exact gw_quiet (HWR.out _)))))
    refine wpQuiet_nil ?_
    rintro _ ⟨p1, rfl⟩
    go_wp2_with fail
    go_ret
    exact ⟨rfl, by (repeat (first | exact Below.refl _ _ | refine Below.drew ?_ | (refine below_gw' ?_ (by first | omega | (simp [go_sem]; done) | (simp [go_sem]; omega)) _) | (refine Below.alloc ?_ (by first | omega | (simp [go_sem]; done) | (simp [go_sem]; omega)) _) | (refine Below.setCell ?_ (by first | omega | (simp [go_sem]; done) | (simp [go_sem]; omega)) _)))⟩
  | .bin op a b, hg, hnd, v, w, hn => by
    obtain ⟨g, va, vb, _, rfl, hb, ha, hbb⟩ := hn
    obtain ⟨hlt, c0, c1, c2, c3, c4⟩ := node_cells hb
    have hnd' : 1 + a.nodes + b.nodes ≤ 1000000 := hnd
    have hsa := text_size a hg.2.1
    have hsb := text_size b hg.2.2
    have hso := op_size hg.1
    have hsc := brk_size (a.kd == 5 && decide (lvlS a.nm < lvlS op)) a.text
    have hsd := brk_size (b.kd == 5 && decide (lvlS b.nm ≤ lvlS op)) b.text
    have hS0 : a.text.size ≤ 100000000000000 := by omega
    have hU0 : b.text.size ≤ 100000000000000 := by omega
    have ih : ∀ w', Below w.heap.size w w' → Calls Tryz.prog 21 #[va] w' fun e w'' => e = .returned (.string a.text) ∧ Below w'.heap.size w' w'' := fun w' h => rtext17_any a hg.2.1 (by omega) va w' (ha.below h)
    have ihb : ∀ w', Below w.heap.size w w' → Calls Tryz.prog 21 #[vb] w' fun e w'' => e = .returned (.string b.text) ∧ Below w'.heap.size w' w'' := fun w' h => rtext17_any b hg.2.2 (by omega) vb w' (hbb.below h)
    have hwa := fun w => wrapped_any (a.kd == 5 && decide (lvlS a.nm < lvlS op)) a.text w hS0
    have hwb := fun w => wrapped_any (b.kd == 5 && decide (lvlS b.nm ≤ lvlS op)) b.text w hU0
    obtain ⟨ga, a3, a4, rfl, hga, d0, d1, d2, d3, d4, _, _⟩ := NodeAt.five ha
    obtain ⟨gb, b3, b4, rfl, hgb, f0, f1, f2, f3, f4, _, _⟩ := NodeAt.five hbb
    have hS : (brk (a.kd == 5 && decide (lvlS a.nm < lvlS op)) a.text).size ≤ 4000000000000 := by omega
    have hU : (brk (b.kd == 5 && decide (lvlS b.nm ≤ lvlS op)) b.text).size ≤ 4000000000000 := by omega
    show Calls _ _ _ _ (StrRes (brk (a.kd == 5 && decide (lvlS a.nm < lvlS op)) a.text ++ ⟨#[32]⟩ ++ op ++ ⟨#[32]⟩ ++ brk (b.kd == 5 && decide (lvlS b.nm ≤ lvlS op)) b.text) w)
    have hla := fun w => rlevel_any a.nm w
    have hlb := fun w => rlevel_any b.nm w
    have hlo := fun w => rlevel_any op w
    clear hnd hnd' hsa hsb hsc hsd hb hg ha hbb
    generalize a.nm = an at *
    generalize b.nm = bn at *
    generalize lvlS an = la at *
    generalize lvlS bn = lb at *
    generalize lvlS op = l at *
    obtain ⟨ca, hca⟩ : ∃ c, (a.kd == 5 && decide (la < l)) = c := ⟨_, rfl⟩
    obtain ⟨cb, hcb⟩ : ∃ c, (b.kd == 5 && decide (lb ≤ l)) = c := ⟨_, rfl⟩
    rw [hca] at hwa hS ⊢
    rw [hcb] at hwb hU ⊢
    generalize brk ca a.text = S at *
    generalize brk cb b.text = U at *
    generalize a.text = S1 at *
    generalize b.text = U1 at *
    generalize a.kd = ka at *
    generalize b.kd = kb at *
    have HWA := Lib.hid hwa; clear hwa
    have HWB := Lib.hid hwb; clear hwb
    have HLA := Lib.hid hla; clear hla
    have HLB := Lib.hid hlb; clear hlb
    have HLO := Lib.hid hlo; clear hlo
    have IH := Lib.hid ih; clear ih
    have IHB := Lib.hid ihb; clear ihb
    rcases ha5 : (ka == 5) with _ | _
    all_goals rcases hb5 : (kb == 5) with _ | _
    all_goals
      rw [ha5] at hca
      rw [hb5] at hcb
      simp only [Bool.false_and, Bool.true_and] at hca hcb
      subst hca
      subst hcb
      go_enter Tryz.func21, Tryz.ntmps21
      go_wp2_with fail
      (with_reducible refine (HLO.out _).mono ?_)
      rintro e w1 ⟨rfl, rfl⟩
      go_wp2_with (first | ((with_reducible refine (HLA.out _).mono ?_); rintro e w1 ⟨rfl, rfl⟩) | ((with_reducible refine (HLB.out _).mono ?_); rintro e w1 ⟨rfl, rfl⟩))
      refine wp_region_gw (by kernel_rfl) (by kernel_rfl) ?_
      repeat (go_big_quiet_step (first | (with_reducible (exact gw_quiet (IH.out _ (by (repeat (first | exact Below.refl _ _ | refine Below.drew ?_ | (refine below_gw' ?_ (by first | omega | (simp [go_sem]; done) | (simp [go_sem]; omega)) _) | (refine Below.alloc ?_ (by first | omega | (simp [go_sem]; done) | (simp [go_sem]; omega)) _) | (refine Below.setCell ?_ (by first | omega | (simp [go_sem]; done) | (simp [go_sem]; omega)) _))))))) | (with_reducible (exact gw_quiet (IHB.out _ (by (repeat (first | exact Below.refl _ _ | refine Below.drew ?_ | (refine below_gw' ?_ (by first | omega | (simp [go_sem]; done) | (simp [go_sem]; omega)) _) | (refine Below.alloc ?_ (by first | omega | (simp [go_sem]; done) | (simp [go_sem]; omega)) _) | (refine Below.setCell ?_ (by first | omega | (simp [go_sem]; done) | (simp [go_sem]; omega)) _))))))) | (with_reducible (exact gw_quiet (HWA.out _))) | (with_reducible (exact gw_quiet (HWB.out _)))))
      refine wpQuiet_nil ?_
      rintro _ ⟨p2, rfl⟩
      go_wp2_with fail
      go_ret
      exact ⟨rfl, by (repeat (first | exact Below.refl _ _ | refine Below.drew ?_ | (refine below_gw' ?_ (by first | omega | (simp [go_sem]; done) | (simp [go_sem]; omega)) _) | (refine Below.alloc ?_ (by first | omega | (simp [go_sem]; done) | (simp [go_sem]; omega)) _) | (refine Below.setCell ?_ (by first | omega | (simp [go_sem]; done) | (simp [go_sem]; omega)) _)))⟩
end Go.Proofs.YtpkbonfbehhbdaaGreatDoor

/- The bytes of a line: letters, digits, runs, blanks, quoted strings, signs. No program in sight. -/
namespace Go.Proofs.YtpkbonfbehhbdaaGreatDoor
open Go.RowKit Go.Sort

def isLet (c : UInt8) : Bool := decide (97 ≤ c.toNat ∧ c.toNat ≤ 122) || decide (65 ≤ c.toNat ∧ c.toNat ≤ 90) || c == 95 || c == 46 || c == 63 || c == 64
def isDig (c : UInt8) : Bool := decide (48 ≤ c.toNat ∧ c.toNat ≤ 57)
def isW (c : UInt8) : Bool := isLet c || isDig c
/-- The offset behind the letters and digits from an offset on. -/
def runEnd (s : ByteArray) (i : Nat) : Nat := if h : i < s.size then (if isW s[i] then runEnd s (i + 1) else i) else i
  termination_by s.size - i
theorem runEnd_go (s : ByteArray) (i : Nat) (h : i < s.size) (hw : isW s[i] = true) : runEnd s i = runEnd s (i + 1) := by
  rw [runEnd, dif_pos h, if_pos hw]
theorem runEnd_no (s : ByteArray) (i : Nat) (h : i < s.size) (hw : isW s[i] = false) : runEnd s i = i := by
  rw [runEnd, dif_pos h, if_neg (by rw [hw]; simp)]
theorem runEnd_out (s : ByteArray) (i : Nat) (h : ¬ i < s.size) : runEnd s i = i := by
  rw [runEnd, dif_neg h]
theorem runEnd_ge (s : ByteArray) (i : Nat) : i ≤ runEnd s i := by
  by_cases h : i < s.size
  · cases hw : isW s[i] with
    | true => rw [runEnd_go s i h hw]; have := runEnd_ge s (i + 1); omega
    | false => rw [runEnd_no s i h hw]; exact Nat.le_refl _
  · rw [runEnd_out s i h]; exact Nat.le_refl _
  termination_by s.size - i
theorem runEnd_le (s : ByteArray) (i : Nat) (hi : i ≤ s.size) : runEnd s i ≤ s.size := by
  by_cases h : i < s.size
  · cases hw : isW s[i] with
    | true => rw [runEnd_go s i h hw]; exact runEnd_le s (i + 1) h
    | false => rw [runEnd_no s i h hw]; exact hi
  · rw [runEnd_out s i h]; exact hi
  termination_by s.size - i
/-- The offset behind the spaces and tabs from an offset on. -/
def skipEnd (s : ByteArray) (i : Nat) : Nat := if h : i < s.size then (if s[i] = 32 ∨ s[i] = 9 then skipEnd s (i + 1) else i) else i
  termination_by s.size - i
theorem skipEnd_go (s : ByteArray) (i : Nat) (h : i < s.size) (hw : s[i] = 32 ∨ s[i] = 9) : skipEnd s i = skipEnd s (i + 1) := by
  rw [skipEnd, dif_pos h, if_pos hw]
theorem skipEnd_no (s : ByteArray) (i : Nat) (h : i < s.size) (hw : ¬ (s[i] = 32 ∨ s[i] = 9)) : skipEnd s i = i := by
  rw [skipEnd, dif_pos h, if_neg hw]
theorem skipEnd_out (s : ByteArray) (i : Nat) (h : ¬ i < s.size) : skipEnd s i = i := by
  rw [skipEnd, dif_neg h]
theorem skipEnd_ge (s : ByteArray) (i : Nat) : i ≤ skipEnd s i := by
  by_cases h : i < s.size
  · by_cases hw : s[i] = 32 ∨ s[i] = 9
    · rw [skipEnd_go s i h hw]; have := skipEnd_ge s (i + 1); omega
    · rw [skipEnd_no s i h hw]; exact Nat.le_refl _
  · rw [skipEnd_out s i h]; exact Nat.le_refl _
  termination_by s.size - i
theorem skipEnd_le (s : ByteArray) (i : Nat) (hi : i ≤ s.size) : skipEnd s i ≤ s.size := by
  by_cases h : i < s.size
  · by_cases hw : s[i] = 32 ∨ s[i] = 9
    · rw [skipEnd_go s i h hw]; exact skipEnd_le s (i + 1) h
    · rw [skipEnd_no s i h hw]; exact hi
  · rw [skipEnd_out s i h]; exact hi
  termination_by s.size - i
/-- The bytes from one offset up to another. -/
abbrev sub (s : ByteArray) (i j : Nat) : ByteArray := s.extract i j
/-- The offset behind the word at an offset, or the offset itself. -/
def wordEnd (s : ByteArray) (i : Nat) : Nat :=
  if h : i < s.size then
    (if isLet s[i] then
      (if h2 : runEnd s i < s.size then (if (upper (sub s i (runEnd s i))).toList = [65, 70] ∧ s[runEnd s i] = 39 then runEnd s i + 1 else runEnd s i) else runEnd s i)
    else i)
  else i
/-- The signs of one byte. -/
def signs1 : List UInt8 := [44, 40, 41, 43, 45, 42, 47, 38, 124, 94, 126, 58, 61, 36]
/-- The length of the sign at an offset, or 0. -/
def signLen (s : ByteArray) (i : Nat) : Nat :=
  if i + 1 < s.size ∧ ((sub s i (i + 2)).toList = [60, 60] ∨ (sub s i (i + 2)).toList = [62, 62]) then 2
  else if h : i < s.size then (if s[i] ∈ signs1 then 1 else 0) else 0
end Go.Proofs.YtpkbonfbehhbdaaGreatDoor
