/- num.Upper: capital letters. -/
import Derived.Test.YtocgjpijjghiiaaDoorBase
import Derived.Laws.IdiomStrings
namespace Go.Proofs.YtocgjpijjghiiaaDoor
open Go.RowKit Go.Sort

/-- A byte in capitals. -/
def up (c : UInt8) : UInt8 := if 97 ≤ c.toNat ∧ c.toNat ≤ 122 then c - 32 else c
/-- A string in capitals. -/
def upper (s : ByteArray) : ByteArray := ⟨(s.data.toList.map up).toArray⟩

theorem up_toNat (c : UInt8) : ((up c).toNat : Int) = if 97 ≤ (c.toNat : Int) ∧ (c.toNat : Int) ≤ 122 then (c.toNat : Int) - 97 + 65 else c.toNat := by
  unfold up
  by_cases h : 97 ≤ c.toNat ∧ c.toNat ≤ 122
  · rw [if_pos h, if_pos (by omega)]
    have : (c - 32).toNat = c.toNat - 32 := by
      rw [UInt8.toNat_sub_of_le]; rfl; rw [UInt8.le_iff_toNat_le]; show 32 ≤ c.toNat; omega
    rw [this]; omega
  · rw [if_neg h, if_neg (by omega)]

theorem setCell_alloc_mark (w : World) (C : Array Value) (t : TypeId) (fr : Nat × Nat) (i : Nat) (v : Value) :
    (w.alloc (.cells C t fr)).setCell ⟨w.heap.size, i, none⟩ v = w.alloc (.cells (C.setIfInBounds i v) t fr) := by
  have hm : ∀ (a : Array Obj) (x : Obj) (f : Obj → Obj), (a.push x).modify a.size f = a.push (f x) := by
    intro a x f
    apply Array.ext
    · simp
    · intro i h1 h2
      simp only [Array.getElem_modify, Array.getElem_push]
      by_cases h : a.size = i
      · subst h; simp
      · have hi : i < a.size := by simp at h1; omega
        simp [h, hi]
  show ({ (w.alloc (.cells C t fr)) with heap := (w.heap.push (.cells C t fr)).modify w.heap.size _ } : World) = _
  rw [hm]
  rfl

set_option maxHeartbeats 1000000 in
theorem upper_any (s : ByteArray) (w : World) (hs : s.size ≤ maxLen) :
    Calls Tryd.prog 26 #[.string s] w fun e w' => e = .returned (.string (upper s)) ∧ Below w.heap.size w w' := by
  unfold maxLen at hs
  have hconv := run_bytes_of_string (P := Tryd.prog) w 9 58 5 s Tryd.underlying9 Tryd.underlying58 Tryd.underlying5
  obtain ⟨cap, hcap⟩ : ∃ cap, grownCap w s.size 0 5 = cap := ⟨_, rfl⟩
  obtain ⟨C0, hC0⟩ : ∃ C0, bytesRow s cap = C0 := ⟨_, rfl⟩
  have hat : ∀ j (hj : j < s.size), C0[j]? = some (.int .u8 (s.data[j].toNat : Int)) := fun j hj => by rw [← hC0]; exact bytesRow_at s cap j hj
  have hsz : s.size ≤ C0.size := by rw [← hC0]; simp [bytesRow]
  rw [hcap, hC0] at hconv
  clear hcap hC0
  obtain ⟨m, hm⟩ : ∃ m, C0.size = m := ⟨_, rfl⟩
  rw [hm] at hconv
  have Hm := Lib.hid hm; clear hm
  go_enter Tryd.func26, Tryd.ntmps26
  go_wp2
  go_loopw [4, 5, 10] (fun _ _ i wr => ∃ (k : Nat) (C : Array Value), k ≤ s.size ∧ i = .int .i64 k ∧ wr = (w.alloc (.cells C 5 (m, m + 1))).drew ∧ C.size = m ∧
      (∀ j (hj : j < s.size), C[j]? = some (.int .u8 ((if j < k then up s.data[j] else s.data[j]).toNat : Int))))
    (fun _ _ i _ => s.size - (intOf i).toNat)
  case atStart => exact ⟨0, C0, Nat.zero_le _, rfl, rfl, Hm.out, by simpa using hat⟩
  case round =>
    obtain ⟨k, C, hk, rfl, rfl, hCm, hC⟩ := hrel
    by_cases hlt : k < s.size
    · obtain ⟨c, hc⟩ : ∃ c, (s.data[k].toNat : Int) = c := ⟨_, rfl⟩
      have hupc := up_toNat s.data[k]
      rw [hc] at hupc
      have hc0 : 0 ≤ c := by omega
      have hc1 : c ≤ 255 := by have := s.data[k].toNat_lt; omega
      have hcell : (w.alloc (.cells C 5 (m, m + 1))).cell? ⟨w.heap.size, k, none⟩ = some (.int .u8 c) := by
        rw [World.cell?_alloc_mark, hC k hlt, if_neg (Nat.lt_irrefl k), hc]
      have hfr : (w.alloc (.cells C 5 (m, m + 1))).frozen? ⟨w.heap.size, k, none⟩ = false := by
        rw [World.frozen?_alloc_mark]; have := Hm.out; simp; omega
      have HC := Lib.hid hC; clear hC
      have HCm := Lib.hid hCm; clear hCm
      have Hat := Lib.hid hat; clear hat
      have Hup := Lib.hid hupc; clear hupc
      have Hc := Lib.hid hc; clear hc hconv
      by_cases h1 : 97 ≤ c
      · by_cases h2 : c ≤ 122
        · go_wp2
          go_roundw
          case rel =>
            refine ⟨k + 1, C.setIfInBounds k (.int .u8 (c - 97 + 65)), by omega, by go_num, ?_, by rw [Array.size_setIfInBounds]; exact HCm.out, ?_⟩
            · rw [setCell_alloc_mark]
            · intro j hj
              rw [Array.getElem?_setIfInBounds]
              by_cases hjk : k = j
              · subst hjk
                have := HCm.out
                rw [if_pos rfl, if_pos (by rw [this]; have := Hm.out; omega), if_pos (by omega)]
                have := Hup.out
                rw [if_pos ⟨h1, h2⟩] at this
                rw [this]
              · rw [if_neg hjk, HC.out j hj]
                by_cases hjk2 : j < k
                · rw [if_pos hjk2, if_pos (by omega)]
                · rw [if_neg hjk2, if_neg (by omega)]
          case measure => simp [intOf]; omega
        · go_wp2
          go_roundw
          case rel =>
            refine ⟨k + 1, C, by omega, by go_num, rfl, HCm.out, ?_⟩
            intro j hj
            rw [HC.out j hj]
            by_cases hjk : j = k
            · subst hjk
              have := Hup.out
              rw [if_neg (by omega)] at this
              rw [if_neg (by omega), if_pos (by omega), this]
              rw [Hc.out]
            · by_cases hjk2 : j < k
              · rw [if_pos hjk2, if_pos (by omega)]
              · rw [if_neg hjk2, if_neg (by omega)]
          case measure => simp [intOf]; omega
      · go_wp2
        go_roundw
        case rel =>
          refine ⟨k + 1, C, by omega, by go_num, rfl, HCm.out, ?_⟩
          intro j hj
          rw [HC.out j hj]
          by_cases hjk : j = k
          · subst hjk
            have := Hup.out
            rw [if_neg (by omega)] at this
            rw [if_neg (by omega), if_pos (by omega), this]
            rw [Hc.out]
          · by_cases hjk2 : j < k
            · rw [if_pos hjk2, if_pos (by omega)]
            · rw [if_neg hjk2, if_neg (by omega)]
        case measure => simp [intOf]; omega
    · obtain rfl : k = s.size := by omega
      have hback := run_convert_bytes_back (P := Tryd.prog) (w.alloc (.cells C 5 (m, m + 1))).drew 58 9 5 ⟨w.heap.size, 0, none⟩ cap (s.data.toList.map up) Tryd.underlying58 Tryd.underlying5 Tryd.underlying9 (by
        intro j hj
        have hj' : j < s.size := by simpa using hj
        show (w.alloc (.cells C 5 (m, m + 1))).cell? (Addr.add ⟨w.heap.size, 0, none⟩ j) = _
        rw [show Addr.add ⟨w.heap.size, 0, none⟩ j = ⟨w.heap.size, j, none⟩ from by simp [Addr.add, eq_comm], World.cell?_alloc_mark, hC j hj', if_pos hj']
        simp)
      have hl : (s.data.toList.map up).length = s.size := by simp
      rw [hl] at hback
      have HC := Lib.hid hC; clear hC hat hconv
      go_wp2
      go_ret
      exact ⟨rfl, ((Below.refl _ _).alloc (Nat.le_refl _) _).drew⟩
end Go.Proofs.YtocgjpijjghiiaaDoor

