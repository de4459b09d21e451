/- Joined texts: Fmt16, NumText, TextE, TextW. -/
import Derived.Test.YtpkbonfbehhbdaaGreatDoorE01
import Derived.Test.YtpkbonfbehhbdaaGreatDoorE02
import Derived.Test.YtpkbonfbehhbdaaGreatDoorE05
import Derived.Test.YtpkbonfbehhbdaaGreatDoorE06
import Derived.Test.YtpkbonfbehhbdaaGreatDoorE07
import Derived.Test.YtpkbonfbehhbdaaGreatDoorE08
import Derived.Laws.IdiomStrings
/- strconv.FormatInt at base 16, for 10 to 65535. -/
namespace Go.Proofs.YtpkbonfbehhbdaaGreatDoor
open Go.RowKit Go.Sort

/-- The byte of a digit, small letters. -/
def hexLow (d : Nat) : UInt8 := if d < 10 then UInt8.ofNat (48 + d) else UInt8.ofNat (87 + d)
/-- The digits of a number to the base 16, small letters. -/
def hexDigs : Nat → Nat → List UInt8
  | 0, _ => []
  | f + 1, u => if u < 16 then [hexLow u] else hexDigs f (u / 16) ++ [hexLow (u % 16)]

theorem hexDigs_small (f u : Nat) (h : u < 16) : hexDigs (f + 1) u = [hexLow u] := by simp [hexDigs, h]
theorem hexDigs_big (f u : Nat) (h : 16 ≤ u) : hexDigs (f + 1) u = hexDigs f (u / 16) ++ [hexLow (u % 16)] := by
  simp [hexDigs, show ¬ u < 16 by omega]

/-- The one cell of a package variable that is read: bits.TrailingZeros at 16. -/
def Tabs (w : World) : Prop := w.cell? ⟨3, 15, none⟩ = some (.int .u8 4)
theorem Tabs.lt {w : World} (h : Tabs w) : 3 < w.heap.size := block_lt_of_cell (a := ⟨3, 15, none⟩) h
theorem Tabs.below {w w' : World} (h : Tabs w) (hb : Below w.heap.size w w') : Tabs w' := (hb.cell (p := ⟨3, 15, none⟩) h.lt).trans h

theorem tz16_eq : IntKind.u64.wrap (bits BinOp.and IntKind.u64 16 (IntKind.u64.wrap (-16)) * 285870213051353865) / 288230376151711744 = 15 := by decide +kernel
theorem pow16_eq : bits BinOp.and IntKind.i64 16 15 = 0 := by decide +kernel
theorem and15_u64 (u : Nat) (h : u < 18446744073709551616) : bits BinOp.and IntKind.u64 (u : Int) 15 = ((u % 16 : Nat) : Int) := by
  have h1 := bits_and_u64_nat u 15 h (by omega)
  rw [show (15 : Nat) = 2 ^ 4 - 1 from rfl, Nat.and_two_pow_sub_one_eq_mod] at h1
  exact h1

theorem hexConst : ∀ d : Fin 16, (([48, 49, 50, 51, 52, 53, 54, 55, 56, 57, 97, 98, 99, 100, 101, 102, 103, 104, 105, 106, 107, 108, 109, 110, 111, 112, 113, 114, 115, 116, 117, 118, 119, 120, 121, 122] : List UInt8))[d.val]? = some (hexLow d.val) := by decide

set_option maxHeartbeats 400000 in
theorem tz16 (w : World) (hT : w.cell? ⟨3, 15, none⟩ = some (.int .u8 4)) :
    Calls Tryz.prog 152 #[.int .u64 16] w fun e w' => e = .returned (.int .i64 4) ∧ w' = w := by
  have e2 := tz16_eq
  go_enter Tryz.func152, Tryz.ntmps152
  go_wp2
  go_ret
  exact ⟨rfl, rfl⟩

set_option maxHeartbeats 400000 in
theorem pow16 (w : World) :
    Calls Tryz.prog 151 #[.int .i64 16] w fun e w' => e = .returned (.bool true) ∧ w' = w := by
  have e2 := pow16_eq
  go_enter Tryz.func151, Tryz.ntmps151
  go_wp2
  go_ret
  exact ⟨rfl, rfl⟩

theorem zero65 : (Tryz.zeroCells192).size = 65 := by kernel_rfl

set_option maxHeartbeats 4000000 in
set_option maxRecDepth 100000 in
theorem fmt16 (n : Nat) (w : World) (h1 : 10 ≤ n) (h2 : n ≤ 65535) (hT0 : Tabs w) :
    Calls Tryz.prog 111 #[.int .i64 n, .int .i64 16] w fun e w' => e = .returned (.string ⟨(hexDigs 4 n).toArray⟩) ∧ Below w.heap.size w w' := by
  have hsz := hT0.lt
  have hT : w.cell? ⟨3, 15, none⟩ = some (.int .u8 4) := hT0
  clear hT0
  have h0 : (0 : Int) ≤ (n : Int) := by omega
  have h3 : (n : Int) ≤ 65535 := by omega
  have h4 : ¬ (n : Int) < 0 := by omega
  have h5 : decide ((n : Int) < 0) = false := by simp
  go_enter Tryz.func111, Tryz.ntmps111
  go_wp2_with (first | (go_at_call 135; go_in) | (go_at_call 151; refine (pow16 _).mono ?_; rintro e w' ⟨rfl, rfl⟩) | (go_at_call 152; refine (tz16 _ ?_).mono ?_; (simp [go_sem, hT, hsz]); rintro e w' ⟨rfl, rfl⟩))
  have hz := zero65
  generalize Tryz.zeroCells192 = Z at hz ⊢
  have Hz := Lib.hid hz; clear hz
  go_loopw [1, 13] (fun u i wr => ∃ (x k f : Nat) (C : Array Value) (l : List UInt8), u = .int .u64 x ∧ i = .int .i64 k ∧ wr = w.alloc (.cells C 192) ∧ C.size = 65 ∧ k = 61 + f ∧ f ≤ 4 ∧ 1 ≤ f ∧ x < 16 ^ f ∧ l.length + f = 4 ∧ x ≤ 65535 ∧
      hexDigs 4 n = hexDigs f x ++ l ∧ (∀ j (hj : j < l.length), C[k + j]? = some (.int .u8 (l[j].toNat : Int))))
    (fun u _ _ => (intOf u).toNat)
  case atStart => exact ⟨n, 65, 4, Z, [], rfl, rfl, rfl, Hz.out, rfl, by omega, by omega, by omega, rfl, h2, by simp, by simp⟩
  case round =>
    obtain ⟨x, k, f, C, l, rfl, rfl, rfl, hCs, hk, hf, hf1, hx, hl, hx2, hd, hC⟩ := hrel
    have Hd := Lib.hid hd; clear hd
    have HC := Lib.hid hC; clear hC
    have HCs := Lib.hid hCs; clear hCs
    have hk1 : 62 ≤ k := by omega
    have hk2 : k ≤ 65 := by omega
    have Hk := Lib.hid hk; clear hk
    have Hl := Lib.hid hl; clear hl
    have Hx := Lib.hid hx; clear hx
    obtain ⟨v0, hv0⟩ : ∃ v, C[k - 1]? = some v := ⟨_, Array.getElem?_eq_getElem (by have := HCs.out; omega)⟩
    by_cases hge : 16 ≤ x
    · have hf2 : 2 ≤ f := by
        have := Hx.out
        rcases Nat.lt_or_ge f 2 with h | h
        · obtain rfl : f = 1 := by omega
          omega
        · exact h
      have hb := and15_u64 x (by omega)
      obtain ⟨y, hy⟩ : ∃ y, x % 16 = y := ⟨_, rfl⟩
      have hy1 : y < 16 := by omega
      rw [hy] at hb
      have Hy := Lib.hid hy; clear hy
      go_wp2
      go_roundw
      case rel =>
        refine ⟨x / 16, k - 1, f - 1, _, hexLow y :: l, by go_num, by go_num, rfl, by rw [Array.size_setIfInBounds]; exact HCs.out, by have := Hk.out; omega, by omega, by have := Hl.out; have := Hk.out; omega, ?_, ?_, by omega, ?_, ?_⟩
        · have := Hx.out
          obtain ⟨g, rfl⟩ : ∃ g, f = g + 1 := ⟨f - 1, by omega⟩
          rw [Nat.pow_succ] at this
          show x / 16 < 16 ^ g
          omega
        · have := Hl.out
          simp; omega
        · obtain ⟨g, rfl⟩ : ∃ g, f = g + 1 := ⟨f - 1, by omega⟩
          rw [Hd.out, hexDigs_big g x hge, Hy.out]
          simp
        · intro j hj
          have hcs := HCs.out
          rw [Array.getElem?_setIfInBounds]
          rcases j with _ | j
          · rw [if_pos (by omega), if_pos (by omega)]
            have h0 := hexConst ⟨y, hy1⟩
            have h1 := List.getElem?_eq_some_iff.1 h0
            obtain ⟨_, h1⟩ := h1
            show some (Value.int .u8 _) = some (Value.int .u8 _)
            rw [← h1]; rfl
          · rw [if_neg (by omega), show k - 1 + (j + 1) = k + j from by omega]
            exact HC.out j (by simpa using hj)
      case measure => simp [intOf]; omega
    · have hcs := HCs.out
      have hal : Tryz.prog.arrayLen 192 = 65 := by kernel_rfl
      have hsl : ∀ W, (Instr.sliceAt 192 (.pointer (some ⟨w.heap.size, 0, none⟩)) (some (.int .i64 ((k : Int) - 1))) none none).run Tryz.prog W = .ok (.slice (some ⟨w.heap.size, k - 1, none⟩) (66 - k) (66 - k)) W := fun W => by
        rw [run_sliceAt_array_l W 192 ⟨w.heap.size, 0, none⟩ (by kernel_rfl) .i64 ((k : Int) - 1) (by omega) (by rw [hal]; omega), hal]
        go_simp
        omega
      have hcv := run_convert_bytes_back (P := Tryz.prog) (w.alloc (.cells (C.setIfInBounds (k - 1) (.int .u8 ((hexLow x).toNat : Int))) 192)) 146 9 5 ⟨w.heap.size, k - 1, none⟩ (66 - k) (hexLow x :: l) Tryz.underlying146 Tryz.underlying5 Tryz.underlying9 (by
        intro j hj
        rw [show Addr.add ⟨w.heap.size, k - 1, none⟩ j = ⟨w.heap.size, k - 1 + j, none⟩ from addr_add _ _ _, World.cell?_alloc_at _ _ _ _ rfl, Array.getElem?_setIfInBounds]
        rcases j with _ | j
        · rw [if_pos (by omega), if_pos (by omega)]; rfl
        · rw [if_neg (by omega), show k - 1 + (j + 1) = k + j from by omega]
          exact HC.out j (by simpa using hj))
      have hll : (hexLow x :: l).length = 66 - k := by have := Hl.out; have := Hk.out; simp; omega
      rw [hll] at hcv
      have hdg : (({ data := #[48, 49, 50, 51, 52, 53, 54, 55, 56, 57, 97, 98, 99, 100, 101, 102, 103, 104, 105, 106, 107, 108, 109, 110, 111, 112, 113, 114, 115, 116, 117, 118, 119, 120, 121, 122] } : ByteArray)[x]'(by show x < 36; omega)).toNat = (hexLow x).toNat := by
        obtain ⟨_, h1⟩ := List.getElem?_eq_some_iff.1 (hexConst ⟨x, by omega⟩)
        rw [← h1]; rfl
      have hx16 : ¬ (16 : Int) ≤ (x : Int) := by omega
      clear hal hll hcs
      go_wp2
      go_ret
      exact ⟨by rw [Hd.out]; obtain ⟨g, rfl⟩ : ∃ g, f = g + 1 := ⟨f - 1, by omega⟩; rw [hexDigs_small g x (by omega)]; rfl, (Below.refl _ _).alloc (Nat.le_refl _) _⟩

set_option maxHeartbeats 400000 in
theorem fmtInt16 (n : Nat) (w : World) (h1 : 10 ≤ n) (h2 : n ≤ 65535) (hT : Tabs w) :
    Calls Tryz.prog 80 #[.int .i64 n, .int .i64 16] w fun e w' => e = .returned (.string ⟨(hexDigs 4 n).toArray⟩) ∧ Below w.heap.size w w' := by
  go_enter Tryz.func80, Tryz.ntmps80
  go_wp2_with fail
  refine (fmt16 n _ h1 h2 hT).mono ?_
  rintro e w1 ⟨rfl, hb⟩
  go_wp2_with fail
  go_ret
  exact ⟨rfl, hb⟩
end Go.Proofs.YtpkbonfbehhbdaaGreatDoor

/- num.Text. -/
namespace Go.Proofs.YtpkbonfbehhbdaaGreatDoor
open Go.RowKit Go.Sort

/-- The form in which num.Text prints a number. -/
def numText (n : Int) : ByteArray :=
  if n < 0 ∨ 65535 < n then ⟨#[]⟩
  else if n ≤ 9 then ⟨#[UInt8.ofNat (48 + n.toNat)]⟩
  else if 57 < ((upper ⟨(hexDigs 4 n.toNat).toArray⟩ ++ (⟨#[72]⟩ : ByteArray)).data[0]?.getD 0).toNat then (⟨#[48]⟩ : ByteArray) ++ (upper ⟨(hexDigs 4 n.toNat).toArray⟩ ++ (⟨#[72]⟩ : ByteArray))
  else upper ⟨(hexDigs 4 n.toNat).toArray⟩ ++ (⟨#[72]⟩ : ByteArray)

theorem hexDigs_len : ∀ (f u : Nat), (hexDigs f u).length ≤ f
  | 0, _ => by simp [hexDigs]
  | f + 1, u => by
    unfold hexDigs
    split
    · simp
    · have := hexDigs_len f (u / 16); simp; omega

theorem getD_first (X : ByteArray) (h : 0 < X.size) : X.data[0]?.getD 0 = X[0] := by
  rw [Array.getElem?_eq_getElem (by exact h)]; rfl

set_option maxHeartbeats 1000000 in
theorem numText_any (n : Int) (w : World) (hT : Tabs w) :
    Calls Tryz.prog 47 #[.int .i64 n] w fun e w' => e = .returned (.string (numText n)) ∧ Below w.heap.size w w' := by
  by_cases h0 : n < 0 ∨ 65535 < n
  · have hf : (decide (0 ≤ n) && decide (n ≤ 65535)) = false := by simp; omega
    have hr : numText n = ⟨#[]⟩ := by unfold numText; rw [if_pos h0]
    rw [hr]
    clear h0
    go_enter Tryz.func47, Tryz.ntmps47
    go_wp2_with fail
    refine (fits1 _ _ n _ _ ?hc1).mono ?_
    case hc1 => simp [go_sem]
    rintro e w2 ⟨rfl, rfl⟩
    rw [hf]
    go_wp2_with fail
    go_ret
    exact ⟨rfl, by (repeat (first | exact Below.refl _ _ | refine Below.drew ?_ | (refine below_gw' ?_ (by first | omega | (simp [go_sem]; done) | (simp [go_sem]; omega)) _) | (refine Below.alloc ?_ (by first | omega | (simp [go_sem]; done) | (simp [go_sem]; omega)) _) | (refine Below.setCell ?_ (by first | omega | (simp [go_sem]; done) | (simp [go_sem]; omega)) _)))⟩
  · have hf : (decide (0 ≤ n) && decide (n ≤ 65535)) = true := by simp; omega
    have hf0 : 0 ≤ n := by omega
    obtain ⟨m, rfl⟩ := Int.eq_ofNat_of_zero_le hf0
    have hf1 : m ≤ 65535 := by omega
    by_cases h9 : m ≤ 9
    · have hr : numText m = ⟨(Lib.decDigits m).toArray⟩ := by
        have : m = 0 ∨ m = 1 ∨ m = 2 ∨ m = 3 ∨ m = 4 ∨ m = 5 ∨ m = 6 ∨ m = 7 ∨ m = 8 ∨ m = 9 := by omega
        rcases this with rfl | rfl | rfl | rfl | rfl | rfl | rfl | rfl | rfl | rfl <;> rw [Lib.decDigits] <;> rfl
      have h9i : (m : Int) ≤ 9 := by omega
      rw [hr]
      clear h0
      go_enter Tryz.func47, Tryz.ntmps47
      go_wp2_with fail
      refine (fits1 _ _ m _ _ ?hc2).mono ?_
      case hc2 => simp [go_sem]
      rintro e w2 ⟨rfl, rfl⟩
      rw [hf]
      go_wp2_with fail
      refine (Tryz.strconv_Itoa_small m (by omega) _).mono ?_
      rintro e w2 ⟨rfl, rfl⟩
      go_wp2_with fail
      go_ret
      exact ⟨rfl, by (repeat (first | exact Below.refl _ _ | refine Below.drew ?_ | (refine below_gw' ?_ (by first | omega | (simp [go_sem]; done) | (simp [go_sem]; omega)) _) | (refine Below.alloc ?_ (by first | omega | (simp [go_sem]; done) | (simp [go_sem]; omega)) _) | (refine Below.setCell ?_ (by first | omega | (simp [go_sem]; done) | (simp [go_sem]; omega)) _)))⟩
    · have h9i : ¬ (m : Int) ≤ 9 := by omega
      go_enter Tryz.func47, Tryz.ntmps47
      go_wp2_with fail
      refine (fits1 _ _ m _ _ ?hc3).mono ?_
      case hc3 => simp [go_sem]
      rintro e w2 ⟨rfl, rfl⟩
      rw [hf]
      go_wp2_with fail
      refine (fmtInt16 m _ (by omega) hf1 (hT.below (by (repeat (first | exact Below.refl _ _ | refine Below.drew ?_ | (refine below_gw' ?_ (by first | omega | (simp [go_sem]; done) | (simp [go_sem]; omega)) _) | (refine Below.alloc ?_ (by first | omega | (simp [go_sem]; done) | (simp [go_sem]; omega)) _) | (refine Below.setCell ?_ (by first | omega | (simp [go_sem]; done) | (simp [go_sem]; omega)) _)))))).mono ?_
      rintro e w2 ⟨rfl, hb⟩
      obtain ⟨p1, rfl⟩ := gw_of_below hb
      clear hb
      go_wp2_with fail
      refine (upper_any _ _ ?hu).mono ?_
      case hu => have := hexDigs_len 4 m; unfold maxLen; show (hexDigs 4 m).toArray.size ≤ _; simp; omega
      rintro e w2 ⟨rfl, hb⟩
      obtain ⟨p2, rfl⟩ := gw_of_below hb
      clear hb
      have hr : numText m = if 57 < ((upper ⟨(hexDigs 4 m).toArray⟩ ++ (⟨#[72]⟩ : ByteArray)).data[0]?.getD 0).toNat then (⟨#[48]⟩ : ByteArray) ++ (upper ⟨(hexDigs 4 m).toArray⟩ ++ (⟨#[72]⟩ : ByteArray)) else upper ⟨(hexDigs 4 m).toArray⟩ ++ (⟨#[72]⟩ : ByteArray) := by
        unfold numText
        rw [if_neg h0, if_neg (by omega)]
        rfl
      have hU4 : (upper ⟨(hexDigs 4 m).toArray⟩).size ≤ 4 := by
        have := hexDigs_len 4 m
        show ((((hexDigs 4 m).toArray.toList.map up).toArray).size ≤ 4)
        simp; omega
      have Hr := Lib.hid hr; clear hr h0
      generalize upper ⟨(hexDigs 4 m).toArray⟩ = U at Hr hU4 ⊢
      go_wp2_with fail
      · go_ret
        refine ⟨?_, by (repeat (first | exact Below.refl _ _ | refine Below.drew ?_ | (refine below_gw' ?_ (by first | omega | (simp [go_sem]; done) | (simp [go_sem]; omega)) _) | (refine Below.alloc ?_ (by first | omega | (simp [go_sem]; done) | (simp [go_sem]; omega)) _) | (refine Below.setCell ?_ (by first | omega | (simp [go_sem]; done) | (simp [go_sem]; omega)) _)))⟩
        rename_i h
        rw [Hr.out, if_pos (by rw [getD_first _ (by simp; show 0 < U.size + 1; omega)]; omega)]
        rfl
      · go_ret
        refine ⟨?_, by (repeat (first | exact Below.refl _ _ | refine Below.drew ?_ | (refine below_gw' ?_ (by first | omega | (simp [go_sem]; done) | (simp [go_sem]; omega)) _) | (refine Below.alloc ?_ (by first | omega | (simp [go_sem]; done) | (simp [go_sem]; omega)) _) | (refine Below.setCell ?_ (by first | omega | (simp [go_sem]; done) | (simp [go_sem]; omega)) _)))⟩
        rename_i h
        rw [Hr.out, if_neg (by rw [getD_first _ (by simp; show 0 < U.size + 1; omega)]; omega)]
        rfl
end Go.Proofs.YtpkbonfbehhbdaaGreatDoor

/- The texts of expressions. No program in sight. -/
namespace Go.Proofs.YtpkbonfbehhbdaaGreatDoor
open Go.RowKit Go.Sort

/-- A text in brackets, where needed. -/
def brk (c : Bool) (s : ByteArray) : ByteArray := if c then ⟨#[40]⟩ ++ s ++ ⟨#[41]⟩ else s
/-- The text of an expression. -/
def Ex.text : Ex → ByteArray
  | .num n => numText n
  | .sym s => s
  | .here => ⟨#[36]⟩
  | .un op a => op ++ brk (a.kd == 5) a.text
  | .bin op a b => brk (a.kd == 5 && decide (lvlS a.nm < lvlS op)) a.text ++ ⟨#[32]⟩ ++ op ++ ⟨#[32]⟩ ++ brk (b.kd == 5 && decide (lvlS b.nm ≤ lvlS op)) b.text
theorem brk_size (c : Bool) (s : ByteArray) : (brk c s).size ≤ s.size + 2 := by
  cases c
  · exact Nat.le_add_right _ _
  · show (⟨#[40]⟩ ++ s ++ ⟨#[41]⟩ : ByteArray).size ≤ _
    rw [ByteArray.size_append, ByteArray.size_append]
    show 1 + s.size + 1 ≤ _
    omega
theorem upper_len (l : ByteArray) : (upper l).size = l.size := by show (upper l).data.size = l.data.size; simp [upper]
theorem numText_size (n : Int) : (numText n).size ≤ 10 := by
  have h4 := hexDigs_len 4 n.toNat
  have hu : (upper ⟨(hexDigs 4 n.toNat).toArray⟩).size ≤ 4 := by rw [upper_len]; show (hexDigs 4 n.toNat).toArray.size ≤ 4; simpa using h4
  unfold numText
  split
  · show 0 ≤ 10; omega
  · split
    · show 1 ≤ 10; omega
    · split
      · rw [ByteArray.size_append, ByteArray.size_append]
        show 1 + (_ + 1) ≤ 10
        omega
      · rw [ByteArray.size_append]
        show _ + 1 ≤ 10
        omega
theorem op_size {op : ByteArray} (h : lvlS op ≠ 0) : op.size ≤ 3 := by
  have := lvlL_op _ h
  have e : op.size = op.toList.length := by rw [ByteArray.toList_eq]; show op.data.size = _; simp
  rw [e]
  rcases this with h | h | h | h | h | h | h | h | h | h <;> rw [h] <;> decide
theorem un_size {op : ByteArray} (h : op.toList = [45] ∨ op.toList = [43] ∨ op.toList = [126]) : op.size ≤ 3 := by
  have e : op.size = op.toList.length := by rw [ByteArray.toList_eq]; show op.data.size = _; simp
  rw [e]
  rcases h with h | h | h <;> rw [h] <;> decide
theorem text_size : ∀ x : Ex, x.good → x.text.size ≤ x.nodes * 1000100
  | .num n, _ => by have := numText_size n; show (numText n).size ≤ 1 * 1000100; omega
  | .sym s, h => by have h : s.size ≤ 1000000 := h; show s.size ≤ 1 * 1000100; omega
  | .here, _ => by show 1 ≤ 1 * 1000100; omega
  | .un op a, h => by
    have h1 := text_size a h.2
    have h2 := un_size h.1
    have h3 := brk_size (a.kd == 5) a.text
    show (op ++ brk (a.kd == 5) a.text).size ≤ (1 + a.nodes) * 1000100
    rw [ByteArray.size_append]
    omega
  | .bin op a b, h => by
    have h1 := text_size a h.2.1
    have h2 := text_size b h.2.2
    have h3 := op_size h.1
    have h4 := brk_size (a.kd == 5 && decide (lvlS a.nm < lvlS op)) a.text
    have h5 := brk_size (b.kd == 5 && decide (lvlS b.nm ≤ lvlS op)) b.text
    show (brk (a.kd == 5 && decide (lvlS a.nm < lvlS op)) a.text ++ ⟨#[32]⟩ ++ op ++ ⟨#[32]⟩ ++ brk (b.kd == 5 && decide (lvlS b.nm ≤ lvlS op)) b.text).size ≤ (1 + a.nodes + b.nodes) * 1000100
    rw [ByteArray.size_append, ByteArray.size_append, ByteArray.size_append, ByteArray.size_append]
    show _ + 1 + _ + 1 + _ ≤ _
    omega
end Go.Proofs.YtpkbonfbehhbdaaGreatDoor

/- expr.Text. -/
namespace Go.Proofs.YtpkbonfbehhbdaaGreatDoor
open Go.RowKit Go.Sort

def StrRes (s : ByteArray) (w : World) (e : Ending) (w' : World) : Prop := e = .returned (.string s) ∧ Below w.heap.size w w'
theorem brk_t (s : ByteArray) : brk true s = ⟨#[40]⟩ ++ s ++ ⟨#[41]⟩ := rfl
theorem brk_f (s : ByteArray) : brk false s = s := rfl
set_option maxHeartbeats 1000000 in
set_option maxRecDepth 100000 in
theorem part_any (x : Ex) (S : ByteArray) (v : Value) (L : Int) (w : World) (hS : S.size ≤ 100000000000000) (hn : NodeAt 80 0 w x v) (ht : ∀ w', Below w.heap.size w w' → Calls Tryz.prog 22 #[v] w' (StrRes S w')) :
    Calls Tryz.prog 46 #[v, .int .i64 L] w (StrRes (brk (x.kd == 5 && decide ((lvlS x.nm : Int) < L)) S) w) := by
  obtain ⟨g, a3, a4, rfl, hg, c0, c1, c2, c3, c4, ka, kb⟩ := NodeAt.five hn
  clear hn ka kb c1 c3 c4
  have HT := Lib.hid ht; clear ht
  generalize x.kd = k at *
  generalize x.nm = s at *
  rcases hk : (k == 5) with _ | _
  · rw [Bool.false_and, brk_f]
    go_enter Tryz.func46, Tryz.ntmps46
    go_wp2_with fail
    refine (HT.out _ (by (repeat (first | exact Below.refl _ _ | refine Below.drew ?_ | (refine below_gw' ?_ (by first | omega | (simp [go_sem]; done) | (simp [go_sem]; omega)) _) | (refine Below.alloc ?_ (by first | omega | (simp [go_sem]; done) | (simp [go_sem]; omega)) _) | (refine Below.setCell ?_ (by first | omega | (simp [go_sem]; done) | (simp [go_sem]; omega)) _))))).mono ?_
    rintro e w1 ⟨rfl, hb1⟩
    obtain ⟨p1, rfl⟩ := gw_of_below hb1
    clear hb1
    go_wp2_with fail
    go_ret
    exact ⟨rfl, by (repeat (first | exact Below.refl _ _ | refine Below.drew ?_ | (refine below_gw' ?_ (by first | omega | (simp [go_sem]; done) | (simp [go_sem]; omega)) _) | (refine Below.alloc ?_ (by first | omega | (simp [go_sem]; done) | (simp [go_sem]; omega)) _) | (refine Below.setCell ?_ (by first | omega | (simp [go_sem]; done) | (simp [go_sem]; omega)) _)))⟩
  · have hlev := fun w => level_any s w
    generalize lvlS s = l at *
    have HLEV := Lib.hid hlev; clear hlev
    rw [Bool.true_and]
    rcases hl : decide ((l : Int) < L) with _ | _
    · rw [brk_f]
      go_enter Tryz.func46, Tryz.ntmps46
      go_wp2_with fail
      refine (HLEV.out _).mono ?_
      rintro e w1 ⟨rfl, hb1⟩
      obtain ⟨p1, rfl⟩ := gw_of_below hb1
      clear hb1
      go_wp2_with fail
      refine (HT.out _ (by (repeat (first | exact Below.refl _ _ | refine Below.drew ?_ | (refine below_gw' ?_ (by first | omega | (simp [go_sem]; done) | (simp [go_sem]; omega)) _) | (refine Below.alloc ?_ (by first | omega | (simp [go_sem]; done) | (simp [go_sem]; omega)) _) | (refine Below.setCell ?_ (by first | omega | (simp [go_sem]; done) | (simp [go_sem]; omega)) _))))).mono ?_
      rintro e w1 ⟨rfl, hb1⟩
      obtain ⟨p2, rfl⟩ := gw_of_below hb1
      clear hb1
      go_wp2_with fail
      go_ret
      exact ⟨rfl, by (repeat (first | exact Below.refl _ _ | refine Below.drew ?_ | (refine below_gw' ?_ (by first | omega | (simp [go_sem]; done) | (simp [go_sem]; omega)) _) | (refine Below.alloc ?_ (by first | omega | (simp [go_sem]; done) | (simp [go_sem]; omega)) _) | (refine Below.setCell ?_ (by first | omega | (simp [go_sem]; done) | (simp [go_sem]; omega)) _)))⟩
    · rw [brk_t]
      go_enter Tryz.func46, Tryz.ntmps46
      go_wp2_with fail
      refine (HLEV.out _).mono ?_
      rintro e w1 ⟨rfl, hb1⟩
      obtain ⟨p1, rfl⟩ := gw_of_below hb1
      clear hb1
      go_wp2_with fail
      refine (HT.out _ (by (repeat (first | exact Below.refl _ _ | refine Below.drew ?_ | (refine below_gw' ?_ (by first | omega | (simp [go_sem]; done) | (simp [go_sem]; omega)) _) | (refine Below.alloc ?_ (by first | omega | (simp [go_sem]; done) | (simp [go_sem]; omega)) _) | (refine Below.setCell ?_ (by first | omega | (simp [go_sem]; done) | (simp [go_sem]; omega)) _))))).mono ?_
      rintro e w1 ⟨rfl, hb1⟩
      obtain ⟨p2, rfl⟩ := gw_of_below hb1
      clear hb1
      go_wp2_with fail
      go_ret
      exact ⟨rfl, by (repeat (first | exact Below.refl _ _ | refine Below.drew ?_ | (refine below_gw' ?_ (by first | omega | (simp [go_sem]; done) | (simp [go_sem]; omega)) _) | (refine Below.alloc ?_ (by first | omega | (simp [go_sem]; done) | (simp [go_sem]; omega)) _) | (refine Below.setCell ?_ (by first | omega | (simp [go_sem]; done) | (simp [go_sem]; omega)) _)))⟩

set_option maxHeartbeats 4000000 in
set_option maxRecDepth 100000 in
theorem textE_any : ∀ (x : Ex), x.good → x.nodes ≤ 1000000 → ∀ (v : Value) (w : World), NodeAt 80 0 w x v → Tabs w → Calls Tryz.prog 22 #[v] w (StrRes x.text w)
  | .num n, hg, hnd, v, w, hn, hT => by
    obtain ⟨g, _, rfl, hb⟩ := hn
    obtain ⟨hlt, c0, c1, c2, c3, c4⟩ := node_cells hb
    have HT := Lib.hid hT; clear hT hb hg
    go_enter Tryz.func22, Tryz.ntmps22
    go_wp2_with fail
    refine (numText_any n _ (HT.out.below (by (repeat (first | exact Below.refl _ _ | refine Below.drew ?_ | (refine below_gw' ?_ (by first | omega | (simp [go_sem]; done) | (simp [go_sem]; omega)) _) | (refine Below.alloc ?_ (by first | omega | (simp [go_sem]; done) | (simp [go_sem]; omega)) _) | (refine Below.setCell ?_ (by first | omega | (simp [go_sem]; done) | (simp [go_sem]; omega)) _)))))).mono ?_
    rintro e w1 ⟨rfl, hb1⟩
    obtain ⟨p1, rfl⟩ := gw_of_below hb1
    clear hb1
    go_wp2_with fail
    go_ret
    exact ⟨rfl, by (repeat (first | exact Below.refl _ _ | refine Below.drew ?_ | (refine below_gw' ?_ (by first | omega | (simp [go_sem]; done) | (simp [go_sem]; omega)) _) | (refine Below.alloc ?_ (by first | omega | (simp [go_sem]; done) | (simp [go_sem]; omega)) _) | (refine Below.setCell ?_ (by first | omega | (simp [go_sem]; done) | (simp [go_sem]; omega)) _)))⟩
  | .sym s, hg, hnd, v, w, hn, hT => by
    obtain ⟨g, _, rfl, hb⟩ := hn
    obtain ⟨hlt, c0, c1, c2, c3, c4⟩ := node_cells hb
    clear hT hb hg
    go_enter Tryz.func22, Tryz.ntmps22
    go_wp2_with fail
    go_ret
    exact ⟨rfl, by (repeat (first | exact Below.refl _ _ | refine Below.drew ?_ | (refine below_gw' ?_ (by first | omega | (simp [go_sem]; done) | (simp [go_sem]; omega)) _) | (refine Below.alloc ?_ (by first | omega | (simp [go_sem]; done) | (simp [go_sem]; omega)) _) | (refine Below.setCell ?_ (by first | omega | (simp [go_sem]; done) | (simp [go_sem]; omega)) _)))⟩
  | .here, hg, hnd, v, w, hn, hT => by
    obtain ⟨g, _, rfl, hb⟩ := hn
    obtain ⟨hlt, c0, c1, c2, c3, c4⟩ := node_cells hb
    clear hT hb hg
    go_enter Tryz.func22, Tryz.ntmps22
    go_wp2_with fail
    go_ret
    exact ⟨rfl, by (repeat (first | exact Below.refl _ _ | refine Below.drew ?_ | (refine below_gw' ?_ (by first | omega | (simp [go_sem]; done) | (simp [go_sem]; omega)) _) | (refine Below.alloc ?_ (by first | omega | (simp [go_sem]; done) | (simp [go_sem]; omega)) _) | (refine Below.setCell ?_ (by first | omega | (simp [go_sem]; done) | (simp [go_sem]; omega)) _)))⟩
  | .un op a, hg, hnd, v, w, hn, hT => by
    obtain ⟨g, va, _, rfl, hb, ha⟩ := hn
    obtain ⟨hlt, c0, c1, c2, c3, c4⟩ := node_cells hb
    have hnd' : 1 + a.nodes ≤ 1000000 := hnd
    have hsa := text_size a hg.2
    have hso := un_size hg.1
    have hsb := brk_size (a.kd == 5) a.text
    have ih := fun w' (h : Below w.heap.size w w') => part_any a a.text va 2147483648 w' (by omega) (ha.below h) (fun w'' h' => textE_any a hg.2 (by omega) va w'' ((ha.below h).below h') ((hT.below h).below h'))
    have hlv : decide ((lvlS a.nm : Int) < 2147483648) = true := by have := lvlL_le a.nm.toList; rw [decide_eq_true_eq]; unfold lvlS; omega
    rw [hlv, Bool.and_true] at ih
    show Calls _ _ _ _ (StrRes (op ++ brk (a.kd == 5) a.text) w)
    have hS : (brk (a.kd == 5) a.text).size ≤ 4000000000000 := by omega
    clear hnd hnd' hsa hsb
    generalize brk (a.kd == 5) a.text = S at *
    obtain ⟨ga, rfl, hga⟩ := ha.ptr
    have IH := Lib.hid ih; clear ih hT hb hg ha hlv
    go_enter Tryz.func22, Tryz.ntmps22
    go_wp2_with fail
    refine wp_region_gw (by kernel_rfl) (by kernel_rfl) ?_
    repeat (go_big_quiet_step (exact gw_quiet (IH.out _ (by (repeat (first | exact Below.refl _ _ | refine Below.drew ?_ | (refine below_gw' ?_ (by first | omega | (simp [go_sem]; done) | (simp [go_sem]; omega)) _) | (refine Below.alloc ?_ (by first | omega | (simp [go_sem]; done) | (simp [go_sem]; omega)) _) | (refine Below.setCell ?_ (by first | omega | (simp [go_sem]; done) | (simp [go_sem]; omega)) _)))))))
    refine wpQuiet_nil ?_
    rintro _ ⟨p1, rfl⟩
    go_wp2_with fail
    go_ret
    exact ⟨rfl, by (repeat (first | exact Below.refl _ _ | refine Below.drew ?_ | (refine below_gw' ?_ (by first | omega | (simp [go_sem]; done) | (simp [go_sem]; omega)) _) | (refine Below.alloc ?_ (by first | omega | (simp [go_sem]; done) | (simp [go_sem]; omega)) _) | (refine Below.setCell ?_ (by first | omega | (simp [go_sem]; done) | (simp [go_sem]; omega)) _)))⟩
  | .bin op a b, hg, hnd, v, w, hn, hT => by
    obtain ⟨g, va, vb, _, rfl, hb, ha, hbb⟩ := hn
    obtain ⟨hlt, c0, c1, c2, c3, c4⟩ := node_cells hb
    have hnd' : 1 + a.nodes + b.nodes ≤ 1000000 := hnd
    have hsa := text_size a hg.2.1
    have hsb := text_size b hg.2.2
    have hso := op_size hg.1
    have hsc := brk_size (a.kd == 5 && decide (lvlS a.nm < lvlS op)) a.text
    have hsd := brk_size (b.kd == 5 && decide (lvlS b.nm ≤ lvlS op)) b.text
    have ih := fun w' (h : Below w.heap.size w w') => part_any a a.text va (lvlS op) w' (by omega) (ha.below h) (fun w'' h' => textE_any a hg.2.1 (by omega) va w'' ((ha.below h).below h') ((hT.below h).below h'))
    have ihb := fun w' (h : Below w.heap.size w w') => part_any b b.text vb ((lvlS op : Int) + 1) w' (by omega) (hbb.below h) (fun w'' h' => textE_any b hg.2.2 (by omega) vb w'' ((hbb.below h).below h') ((hT.below h).below h'))
    have e1 : decide ((lvlS a.nm : Int) < (lvlS op : Int)) = decide (lvlS a.nm < lvlS op) := by simp
    have e2 : decide ((lvlS b.nm : Int) < (lvlS op : Int) + 1) = decide (lvlS b.nm ≤ lvlS op) := by rw [decide_eq_decide]; omega
    rw [e1] at ih
    rw [e2] at ihb
    show Calls _ _ _ _ (StrRes (brk (a.kd == 5 && decide (lvlS a.nm < lvlS op)) a.text ++ ⟨#[32]⟩ ++ op ++ ⟨#[32]⟩ ++ brk (b.kd == 5 && decide (lvlS b.nm ≤ lvlS op)) b.text) w)
    have hS : (brk (a.kd == 5 && decide (lvlS a.nm < lvlS op)) a.text).size ≤ 4000000000000 := by omega
    have hU : (brk (b.kd == 5 && decide (lvlS b.nm ≤ lvlS op)) b.text).size ≤ 4000000000000 := by omega
    clear hnd hnd' hsa hsb hsc hsd
    generalize brk (a.kd == 5 && decide (lvlS a.nm < lvlS op)) a.text = S at *
    generalize brk (b.kd == 5 && decide (lvlS b.nm ≤ lvlS op)) b.text = U at *
    obtain ⟨ga, rfl, hga⟩ := ha.ptr
    obtain ⟨gb, rfl, hgb⟩ := hbb.ptr
    have hlev := fun w => level_any op w
    have hl6 : lvlS op ≤ 6 := lvlL_le _
    generalize lvlS op = l at *
    have HLEV := Lib.hid hlev; clear hlev e1 e2
    have IH : Hid (∀ w', Below w.heap.size w w' → Calls Tryz.prog 46 #[.pointer (some ⟨ga, 0, none⟩), .int .i64 l] w' fun e w'' => e = .returned (.string S) ∧ Below w'.heap.size w' w'') := Lib.hid ih; clear ih hT hb hg ha
    have IHB : Hid (∀ w', Below w.heap.size w w' → Calls Tryz.prog 46 #[.pointer (some ⟨gb, 0, none⟩), .int .i64 ((l : Int) + 1)] w' fun e w'' => e = .returned (.string U) ∧ Below w'.heap.size w' w'') := Lib.hid ihb; clear ihb hbb
    go_enter Tryz.func22, Tryz.ntmps22
    go_wp2_with fail
    refine (HLEV.out _).mono ?_
    rintro e w1 ⟨rfl, hb1⟩
    obtain ⟨p1, rfl⟩ := gw_of_below hb1
    clear hb1
    have hlt1 : g < w.heap.size + p1.os.size := by omega
    have hw64 : IntKind.i64.wrap ((l : Int) + 1) = (l : Int) + 1 := IntWalk.i64_in _ (by omega)
    have HW := hw64
    go_wp2_with fail
    refine wp_region_gw (by kernel_rfl) (by kernel_rfl) ?_
    repeat (go_big_quiet_step (first | (with_reducible (exact gw_quiet (IH.out _ (by (repeat (first | exact Below.refl _ _ | refine Below.drew ?_ | (refine below_gw' ?_ (by first | omega | (simp [go_sem]; done) | (simp [go_sem]; omega)) _) | (refine Below.alloc ?_ (by first | omega | (simp [go_sem]; done) | (simp [go_sem]; omega)) _) | (refine Below.setCell ?_ (by first | omega | (simp [go_sem]; done) | (simp [go_sem]; omega)) _))))))) | (with_reducible (exact gw_quiet (IHB.out _ (by (repeat (first | exact Below.refl _ _ | refine Below.drew ?_ | (refine below_gw' ?_ (by first | omega | (simp [go_sem]; done) | (simp [go_sem]; omega)) _) | (refine Below.alloc ?_ (by first | omega | (simp [go_sem]; done) | (simp [go_sem]; omega)) _) | (refine Below.setCell ?_ (by first | omega | (simp [go_sem]; done) | (simp [go_sem]; omega)) _)))))))))
    refine wpQuiet_nil ?_
    rintro _ ⟨p2, rfl⟩
    go_wp2_with fail
    go_ret
    exact ⟨rfl, by (repeat (first | exact Below.refl _ _ | refine Below.drew ?_ | (refine below_gw' ?_ (by first | omega | (simp [go_sem]; done) | (simp [go_sem]; omega)) _) | (refine Below.alloc ?_ (by first | omega | (simp [go_sem]; done) | (simp [go_sem]; omega)) _) | (refine Below.setCell ?_ (by first | omega | (simp [go_sem]; done) | (simp [go_sem]; omega)) _)))⟩
end Go.Proofs.YtpkbonfbehhbdaaGreatDoor
