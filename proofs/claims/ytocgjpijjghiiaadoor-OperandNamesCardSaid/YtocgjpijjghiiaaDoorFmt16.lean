/- strconv.FormatInt at base 16, for 10 to 65535. -/
import Derived.Test.YtocgjpijjghiiaaDoorBase
import Derived.Laws.IdiomStrings
namespace Go.Proofs.YtocgjpijjghiiaaDoor
open Go.RowKit Go.Sort

/-- The byte of a digit, small letters. -/
def hexLow (d : Nat) : UInt8 := if d < 10 then UInt8.ofNat (48 + d) else UInt8.ofNat (87 + d)
/-- The digits of a number to the base 16, small letters. -/
def hexDigs : Nat → Nat → List UInt8
  | 0, _ => []
  | f + 1, u => if u < 16 then [hexLow u] else hexDigs f (u / 16) ++ [hexLow (u % 16)]

theorem hexDigs_small (f u : Nat) (h : u < 16) : hexDigs (f + 1) u = [hexLow u] := by simp [hexDigs, h]
theorem hexDigs_big (f u : Nat) (h : 16 ≤ u) : hexDigs (f + 1) u = hexDigs f (u / 16) ++ [hexLow (u % 16)] := by
  simp [hexDigs, show ¬ u < 16 by omega]

/-- The one cell of a package variable that is read: bits.TrailingZeros at 16. -/
def Tabs (w : World) : Prop := w.cell? ⟨3, 15, none⟩ = some (.int .u8 4)
theorem Tabs.lt {w : World} (h : Tabs w) : 3 < w.heap.size := block_lt_of_cell (a := ⟨3, 15, none⟩) h
theorem Tabs.below {w w' : World} (h : Tabs w) (hb : Below w.heap.size w w') : Tabs w' := (hb.cell (p := ⟨3, 15, none⟩) h.lt).trans h

theorem tz16_eq : IntKind.u64.wrap (bits BinOp.and IntKind.u64 16 (IntKind.u64.wrap (-16)) * 285870213051353865) / 288230376151711744 = 15 := by decide +kernel
theorem pow16_eq : bits BinOp.and IntKind.i64 16 15 = 0 := by decide +kernel
theorem and15_u64 (u : Nat) (h : u < 18446744073709551616) : bits BinOp.and IntKind.u64 (u : Int) 15 = ((u % 16 : Nat) : Int) := by
  have h1 := bits_and_u64_nat u 15 h (by omega)
  rw [show (15 : Nat) = 2 ^ 4 - 1 from rfl, Nat.and_two_pow_sub_one_eq_mod] at h1
  exact h1

theorem hexConst : ∀ d : Fin 16, (([48, 49, 50, 51, 52, 53, 54, 55, 56, 57, 97, 98, 99, 100, 101, 102, 103, 104, 105, 106, 107, 108, 109, 110, 111, 112, 113, 114, 115, 116, 117, 118, 119, 120, 121, 122] : List UInt8))[d.val]? = some (hexLow d.val) := by decide

set_option maxHeartbeats 400000 in
theorem tz16 (w : World) (hT : w.cell? ⟨3, 15, none⟩ = some (.int .u8 4)) :
    Calls Tryd.prog 90 #[.int .u64 16] w fun e w' => e = .returned (.int .i64 4) ∧ w' = w := by
  have e2 := tz16_eq
  go_enter Tryd.func90, Tryd.ntmps90
  go_wp2
  go_ret
  exact ⟨rfl, rfl⟩

set_option maxHeartbeats 400000 in
theorem pow16 (w : World) :
    Calls Tryd.prog 89 #[.int .i64 16] w fun e w' => e = .returned (.bool true) ∧ w' = w := by
  have e2 := pow16_eq
  go_enter Tryd.func89, Tryd.ntmps89
  go_wp2
  go_ret
  exact ⟨rfl, rfl⟩

theorem zero65 : (Tryd.zeroCells109).size = 65 := by kernel_rfl

set_option maxHeartbeats 4000000 in
set_option maxRecDepth 100000 in
theorem fmt16 (n : Nat) (w : World) (h1 : 10 ≤ n) (h2 : n ≤ 65535) (hT0 : Tabs w) :
    Calls Tryd.prog 81 #[.int .i64 n, .int .i64 16] w fun e w' => e = .returned (.string ⟨(hexDigs 4 n).toArray⟩) ∧ Below w.heap.size w w' := by
  have hsz := hT0.lt
  have hT : w.cell? ⟨3, 15, none⟩ = some (.int .u8 4) := hT0
  clear hT0
  have h0 : (0 : Int) ≤ (n : Int) := by omega
  have h3 : (n : Int) ≤ 65535 := by omega
  have h4 : ¬ (n : Int) < 0 := by omega
  have h5 : decide ((n : Int) < 0) = false := by simp
  go_enter Tryd.func81, Tryd.ntmps81
  go_wp2_with (first | (go_at_call 86; go_in) | (go_at_call 89; refine (pow16 _).mono ?_; rintro e w' ⟨rfl, rfl⟩) | (go_at_call 90; refine (tz16 _ ?_).mono ?_; (simp [go_sem, hT, hsz]); rintro e w' ⟨rfl, rfl⟩))
  have hz := zero65
  generalize Tryd.zeroCells109 = Z at hz ⊢
  have Hz := Lib.hid hz; clear hz
  go_loopw [1, 13] (fun u i wr => ∃ (x k f : Nat) (C : Array Value) (l : List UInt8), u = .int .u64 x ∧ i = .int .i64 k ∧ wr = w.alloc (.cells C 109) ∧ C.size = 65 ∧ k = 61 + f ∧ f ≤ 4 ∧ 1 ≤ f ∧ x < 16 ^ f ∧ l.length + f = 4 ∧ x ≤ 65535 ∧
      hexDigs 4 n = hexDigs f x ++ l ∧ (∀ j (hj : j < l.length), C[k + j]? = some (.int .u8 (l[j].toNat : Int))))
    (fun u _ _ => (intOf u).toNat)
  case atStart => exact ⟨n, 65, 4, Z, [], rfl, rfl, rfl, Hz.out, rfl, by omega, by omega, by omega, rfl, h2, by simp, by simp⟩
  case round =>
    obtain ⟨x, k, f, C, l, rfl, rfl, rfl, hCs, hk, hf, hf1, hx, hl, hx2, hd, hC⟩ := hrel
    have Hd := Lib.hid hd; clear hd
    have HC := Lib.hid hC; clear hC
    have HCs := Lib.hid hCs; clear hCs
    have hk1 : 62 ≤ k := by omega
    have hk2 : k ≤ 65 := by omega
    have Hk := Lib.hid hk; clear hk
    have Hl := Lib.hid hl; clear hl
    have Hx := Lib.hid hx; clear hx
    obtain ⟨v0, hv0⟩ : ∃ v, C[k - 1]? = some v := ⟨_, Array.getElem?_eq_getElem (by have := HCs.out; omega)⟩
    by_cases hge : 16 ≤ x
    · have hf2 : 2 ≤ f := by
        have := Hx.out
        rcases Nat.lt_or_ge f 2 with h | h
        · obtain rfl : f = 1 := by omega
          omega
        · exact h
      have hb := and15_u64 x (by omega)
      obtain ⟨y, hy⟩ : ∃ y, x % 16 = y := ⟨_, rfl⟩
      have hy1 : y < 16 := by omega
      rw [hy] at hb
      have Hy := Lib.hid hy; clear hy
      go_wp2
      go_roundw
      case rel =>
        refine ⟨x / 16, k - 1, f - 1, _, hexLow y :: l, by go_num, by go_num, rfl, by rw [Array.size_setIfInBounds]; exact HCs.out, by have := Hk.out; omega, by omega, by have := Hl.out; have := Hk.out; omega, ?_, ?_, by omega, ?_, ?_⟩
        · have := Hx.out
          obtain ⟨g, rfl⟩ : ∃ g, f = g + 1 := ⟨f - 1, by omega⟩
          rw [Nat.pow_succ] at this
          show x / 16 < 16 ^ g
          omega
        · have := Hl.out
          simp; omega
        · obtain ⟨g, rfl⟩ : ∃ g, f = g + 1 := ⟨f - 1, by omega⟩
          rw [Hd.out, hexDigs_big g x hge, Hy.out]
          simp
        · intro j hj
          have hcs := HCs.out
          rw [Array.getElem?_setIfInBounds]
          rcases j with _ | j
          · rw [if_pos (by omega), if_pos (by omega)]
            have h0 := hexConst ⟨y, hy1⟩
            have h1 := List.getElem?_eq_some_iff.1 h0
            obtain ⟨_, h1⟩ := h1
            show some (Value.int .u8 _) = some (Value.int .u8 _)
            rw [← h1]; rfl
          · rw [if_neg (by omega), show k - 1 + (j + 1) = k + j from by omega]
            exact HC.out j (by simpa using hj)
      case measure => simp [intOf]; omega
    · have hcs := HCs.out
      have hal : Tryd.prog.arrayLen 109 = 65 := by kernel_rfl
      have hsl : ∀ W, (Instr.sliceAt 109 (.pointer (some ⟨w.heap.size, 0, none⟩)) (some (.int .i64 ((k : Int) - 1))) none none).run Tryd.prog W = .ok (.slice (some ⟨w.heap.size, k - 1, none⟩) (66 - k) (66 - k)) W := fun W => by
        rw [run_sliceAt_array_l W 109 ⟨w.heap.size, 0, none⟩ (by kernel_rfl) .i64 ((k : Int) - 1) (by omega) (by rw [hal]; omega), hal]
        go_simp
        omega
      have hcv := run_convert_bytes_back (P := Tryd.prog) (w.alloc (.cells (C.setIfInBounds (k - 1) (.int .u8 ((hexLow x).toNat : Int))) 109)) 58 9 5 ⟨w.heap.size, k - 1, none⟩ (66 - k) (hexLow x :: l) Tryd.underlying58 Tryd.underlying5 Tryd.underlying9 (by
        intro j hj
        rw [show Addr.add ⟨w.heap.size, k - 1, none⟩ j = ⟨w.heap.size, k - 1 + j, none⟩ from addr_add _ _ _, World.cell?_alloc_at _ _ _ _ rfl, Array.getElem?_setIfInBounds]
        rcases j with _ | j
        · rw [if_pos (by omega), if_pos (by omega)]; rfl
        · rw [if_neg (by omega), show k - 1 + (j + 1) = k + j from by omega]
          exact HC.out j (by simpa using hj))
      have hll : (hexLow x :: l).length = 66 - k := by have := Hl.out; have := Hk.out; simp; omega
      rw [hll] at hcv
      have hdg : (({ data := #[48, 49, 50, 51, 52, 53, 54, 55, 56, 57, 97, 98, 99, 100, 101, 102, 103, 104, 105, 106, 107, 108, 109, 110, 111, 112, 113, 114, 115, 116, 117, 118, 119, 120, 121, 122] } : ByteArray)[x]'(by show x < 36; omega)).toNat = (hexLow x).toNat := by
        obtain ⟨_, h1⟩ := List.getElem?_eq_some_iff.1 (hexConst ⟨x, by omega⟩)
        rw [← h1]; rfl
      have hx16 : ¬ (16 : Int) ≤ (x : Int) := by omega
      clear hal hll hcs
      go_wp2
      go_ret
      exact ⟨by rw [Hd.out]; obtain ⟨g, rfl⟩ : ∃ g, f = g + 1 := ⟨f - 1, by omega⟩; rw [hexDigs_small g x (by omega)]; rfl, (Below.refl _ _).alloc (Nat.le_refl _) _⟩

set_option maxHeartbeats 400000 in
theorem fmtInt16 (n : Nat) (w : World) (h1 : 10 ≤ n) (h2 : n ≤ 65535) (hT : Tabs w) :
    Calls Tryd.prog 71 #[.int .i64 n, .int .i64 16] w fun e w' => e = .returned (.string ⟨(hexDigs 4 n).toArray⟩) ∧ Below w.heap.size w w' := by
  go_enter Tryd.func71, Tryd.ntmps71
  go_wp2_with fail
  refine (fmt16 n _ h1 h2 hT).mono ?_
  rintro e w1 ⟨rfl, hb⟩
  go_wp2_with fail
  go_ret
  exact ⟨rfl, hb⟩
end Go.Proofs.YtocgjpijjghiiaaDoor

