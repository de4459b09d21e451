/- The reference's Upper. -/
import Derived.Test.YtocgjpijjghiiaaDoorRow
import Derived.Test.YtocgjpijjghiiaaDoorUpper
import Derived.Test.YtocgjpijjghiiaaDoorLists
namespace Go.Proofs.YtocgjpijjghiiaaDoor
open Go.RowKit Go.Sort

theorem Tryd.infoByte : (Tryd.prog.info? 5).map (fun i => (i.zero, i.size, i.bytes)) = some (some (.int .u8 0), 1, 1) := by kernel_rfl
/-- The cells of bytes. -/
def bytc (l : List UInt8) : List Value := l.map fun c => .int .u8 (c.toNat : Int)
theorem bytc_len (l : List UInt8) : (bytc l).length = l.length := by simp [bytc]
theorem bytc_append (l m : List UInt8) : bytc (l ++ m) = bytc l ++ bytc m := by simp [bytc]

set_option maxHeartbeats 1000000 in
set_option maxRecDepth 100000 in
theorem rupper_any (s : ByteArray) (w : World) (hs : s.size ≤ 1000) :
    Calls Tryd.prog 36 #[.string s] w fun e w' => e = .returned (.string (upper s)) ∧ Below w.heap.size w w' := by
  obtain ⟨i0, hi, hz0, hz1, hz2⟩ := info_parts Tryd.infoByte
  obtain ⟨B, hB⟩ : ∃ B, w.heap.size = B := ⟨_, rfl⟩
  obtain ⟨U, hU⟩ : ∃ U, s.data.toList.map up = U := ⟨_, rfl⟩
  have HU := Lib.hid hU; clear hU
  have HB := Lib.hid hB; clear hB
  go_enter Tryd.func36, Tryd.ntmps36
  go_wp2_with fail
  go_loopw [3, 4, 5] (fun v i _ wr => ∃ k : Nat, k ≤ s.size ∧ i = .int .i64 k ∧ wr.ownsRow B 5 1 v k (bytc (U.take k)) ∧ Below B w wr) (fun _ i _ _ => s.size - (intOf i).toNat)
  case atStart => exact ⟨0, Nat.zero_le _, rfl, World.ownsRow_nil _ _ _ _, Below.refl _ _⟩
  case round =>
    obtain ⟨k, hk, rfl, hown, hbel⟩ := hrel
    have HOWN := Lib.hid hown; clear hown
    have HBEL := Lib.hid hbel; clear hbel
    by_cases hlt : k < s.size
    · have hi0 : (0 : Int) ≤ (k : Int) := by omega
      have hi1 : (k : Int) < (s.size : Int) := by omega
      have hup := up_toNat s[k]
      have hc1 : (s[k].toNat : Int) ≤ 255 := by have := s[k].toNat_lt; omega
      have hsucc : bytc (U.take (k + 1)) = bytc (U.take k) ++ [.int .u8 ((up s[k]).toNat : Int)] := by
        rw [List.take_add_one, ← HU.out, bytc_append]
        congr 1
        simp [bytc, hlt]
        rfl
      by_cases h1 : 97 ≤ (s[k].toNat : Int)
      · by_cases h2 : (s[k].toNat : Int) ≤ 122
        · rw [if_pos ⟨h1, h2⟩, show (s[k].toNat : Int) - 97 + 65 = (s[k].toNat : Int) - 32 by omega] at hup
          rw [hup] at hsucc
          clear hup
          have Hk := Lib.hid hsucc; clear hsucc
          go_wp2_with (at_builtin; refine wpList_append_own _ rfl _ _ 58 rfl B 5 i0 (.int .u8 0) 1 1 Tryd.underlying58 hi hz0 hz1 hz2 rfl (by decide) _ _ _ rfl (owns_below' HOWN.out (by (repeat (first | exact Below.refl _ _ | refine Below.drew ?_ | (refine below_gw' ?_ (by first | omega | (simp [go_sem]; done) | (simp [go_sem]; omega)) _) | (refine Below.alloc ?_ (by first | omega | (simp [go_sem]; done) | (simp [go_sem]; omega)) _) | (refine Below.setCell ?_ (by first | omega | (simp [go_sem]; done) | (simp [go_sem]; omega)) _))))) _ 1 1 [.int .u8 ((s[k].toNat : Int) - 32)] rfl rfl ?c1 ?c2 ?c3 ?c4 ?c5 ?_)
          try case c1 =>
            intro q u hq
            rw [addr_add]
            match q, hq with
            | 0, hq => simp at hq; subst hq; simp [go_sem]
          case c2 => first | (intro u hu; simp at hu; subst hu; rfl) | rfl
          case c3 => unfold maxLen; omega
          case c4 => omega
          case c5 => have := HBEL.out.size; have := HB.out; simp [go_sem]; omega
          intro v' w1 hown' hgrow _
          have hsz : B ≤ wr.heap.size := by have := HBEL.out.size; have := HB.out; omega
          have hb' : Below B w w1 := (HBEL.out.trans (Below.mono (show Below wr.heap.size wr _ by (repeat (first | exact Below.refl _ _ | refine Below.drew ?_ | (refine below_gw' ?_ (by first | omega | (simp [go_sem]; done) | (simp [go_sem]; omega)) _) | (refine Below.alloc ?_ (by first | omega | (simp [go_sem]; done) | (simp [go_sem]; omega)) _) | (refine Below.setCell ?_ (by first | omega | (simp [go_sem]; done) | (simp [go_sem]; omega)) _)))) hsz)).grown hgrow (by simp [go_sem]; omega) (by
            intro q hq
            have := HOWN.out.2
            rcases this with ⟨h, _⟩ | ⟨g, cap, cur, h, hg, _⟩
            · rw [h] at hq; cases hq
            · rw [h] at hq; cases hq; exact hg)
          have HOWN3 := Lib.hid hown'; clear hown'
          have HB' := Lib.hid hb'; clear hb' hgrow
          go_wp2_with fail
          go_roundw
          case rel => exact ⟨k + 1, by omega, by go_num, by rw [Hk.out]; exact HOWN3.out, HB'.out⟩
          case measure => simp [intOf]; omega
        · rw [if_neg (fun h => h2 h.2)] at hup
          rw [hup] at hsucc
          clear hup
          have Hk := Lib.hid hsucc; clear hsucc
          go_wp2_with (at_builtin; refine wpList_append_own _ rfl _ _ 58 rfl B 5 i0 (.int .u8 0) 1 1 Tryd.underlying58 hi hz0 hz1 hz2 rfl (by decide) _ _ _ rfl (owns_below' HOWN.out (by (repeat (first | exact Below.refl _ _ | refine Below.drew ?_ | (refine below_gw' ?_ (by first | omega | (simp [go_sem]; done) | (simp [go_sem]; omega)) _) | (refine Below.alloc ?_ (by first | omega | (simp [go_sem]; done) | (simp [go_sem]; omega)) _) | (refine Below.setCell ?_ (by first | omega | (simp [go_sem]; done) | (simp [go_sem]; omega)) _))))) _ 1 1 [.int .u8 ((s[k].toNat : Int))] rfl rfl ?c1 ?c2 ?c3 ?c4 ?c5 ?_)
          try case c1 =>
            intro q u hq
            rw [addr_add]
            match q, hq with
            | 0, hq => simp at hq; subst hq; simp [go_sem]
          case c2 => first | (intro u hu; simp at hu; subst hu; rfl) | rfl
          case c3 => unfold maxLen; omega
          case c4 => omega
          case c5 => have := HBEL.out.size; have := HB.out; simp [go_sem]; omega
          intro v' w1 hown' hgrow _
          have hsz : B ≤ wr.heap.size := by have := HBEL.out.size; have := HB.out; omega
          have hb' : Below B w w1 := (HBEL.out.trans (Below.mono (show Below wr.heap.size wr _ by (repeat (first | exact Below.refl _ _ | refine Below.drew ?_ | (refine below_gw' ?_ (by first | omega | (simp [go_sem]; done) | (simp [go_sem]; omega)) _) | (refine Below.alloc ?_ (by first | omega | (simp [go_sem]; done) | (simp [go_sem]; omega)) _) | (refine Below.setCell ?_ (by first | omega | (simp [go_sem]; done) | (simp [go_sem]; omega)) _)))) hsz)).grown hgrow (by simp [go_sem]; omega) (by
            intro q hq
            have := HOWN.out.2
            rcases this with ⟨h, _⟩ | ⟨g, cap, cur, h, hg, _⟩
            · rw [h] at hq; cases hq
            · rw [h] at hq; cases hq; exact hg)
          have HOWN3 := Lib.hid hown'; clear hown'
          have HB' := Lib.hid hb'; clear hb' hgrow
          go_wp2_with fail
          go_roundw
          case rel => exact ⟨k + 1, by omega, by go_num, by rw [Hk.out]; exact HOWN3.out, HB'.out⟩
          case measure => simp [intOf]; omega
      · rw [if_neg (fun h => h1 h.1)] at hup
        rw [hup] at hsucc
        clear hup
        have Hk := Lib.hid hsucc; clear hsucc
        go_wp2_with (at_builtin; refine wpList_append_own _ rfl _ _ 58 rfl B 5 i0 (.int .u8 0) 1 1 Tryd.underlying58 hi hz0 hz1 hz2 rfl (by decide) _ _ _ rfl (owns_below' HOWN.out (by (repeat (first | exact Below.refl _ _ | refine Below.drew ?_ | (refine below_gw' ?_ (by first | omega | (simp [go_sem]; done) | (simp [go_sem]; omega)) _) | (refine Below.alloc ?_ (by first | omega | (simp [go_sem]; done) | (simp [go_sem]; omega)) _) | (refine Below.setCell ?_ (by first | omega | (simp [go_sem]; done) | (simp [go_sem]; omega)) _))))) _ 1 1 [.int .u8 ((s[k].toNat : Int))] rfl rfl ?c1 ?c2 ?c3 ?c4 ?c5 ?_)
        try case c1 =>
          intro q u hq
          rw [addr_add]
          match q, hq with
          | 0, hq => simp at hq; subst hq; simp [go_sem]
        case c2 => first | (intro u hu; simp at hu; subst hu; rfl) | rfl
        case c3 => unfold maxLen; omega
        case c4 => omega
        case c5 => have := HBEL.out.size; have := HB.out; simp [go_sem]; omega
        intro v' w1 hown' hgrow _
        have hsz : B ≤ wr.heap.size := by have := HBEL.out.size; have := HB.out; omega
        have hb' : Below B w w1 := (HBEL.out.trans (Below.mono (show Below wr.heap.size wr _ by (repeat (first | exact Below.refl _ _ | refine Below.drew ?_ | (refine below_gw' ?_ (by first | omega | (simp [go_sem]; done) | (simp [go_sem]; omega)) _) | (refine Below.alloc ?_ (by first | omega | (simp [go_sem]; done) | (simp [go_sem]; omega)) _) | (refine Below.setCell ?_ (by first | omega | (simp [go_sem]; done) | (simp [go_sem]; omega)) _)))) hsz)).grown hgrow (by simp [go_sem]; omega) (by
          intro q hq
          have := HOWN.out.2
          rcases this with ⟨h, _⟩ | ⟨g, cap, cur, h, hg, _⟩
          · rw [h] at hq; cases hq
          · rw [h] at hq; cases hq; exact hg)
        have HOWN3 := Lib.hid hown'; clear hown'
        have HB' := Lib.hid hb'; clear hb' hgrow
        go_wp2_with fail
        go_roundw
        case rel => exact ⟨k + 1, by omega, by go_num, by rw [Hk.out]; exact HOWN3.out, HB'.out⟩
        case measure => simp [intOf]; omega
    · obtain rfl : k = s.size := by omega
      have hlen : U.length = s.size := by rw [← HU.out]; simp
      have hrow := Row.of_owns HOWN.out
      rw [List.take_of_length_le (by omega)] at hrow
      obtain ⟨a2, c2, rfl, hc2, hr⟩ := hrow
      have hconv : (convert 58 9 (.slice a2 s.size c2)).run Tryd.prog wr = .ok (.string (upper s)) wr := by
        have hU : upper s = ⟨U.toArray⟩ := by unfold upper; rw [HU.out]
        rw [hU]
        by_cases hnil : U = []
        · have h0 : s.size = 0 := by rw [← hlen, hnil]; rfl
          rw [h0, hnil, run_convert_bytes_string (P := Tryd.prog) wr 58 9 5 a2 0 c2 Tryd.underlying58 Tryd.underlying5 Tryd.underlying9]
          cases a2 with
          | none => rfl
          | some a => rfl
        · obtain ⟨g, o, rfl, hg, hcs⟩ := hr (by intro e; have h2 := bytc_len U; rw [e] at h2; exact hnil (List.eq_nil_of_length_eq_zero h2.symm))
          have := run_convert_bytes_back (P := Tryd.prog) wr 58 9 5 ⟨g, o, none⟩ c2 U Tryd.underlying58 Tryd.underlying5 Tryd.underlying9 (fun j hj => by
            rw [addr_add, hcs j (by rw [bytc_len]; exact hj)]
            simp [bytc, hj])
          rw [hlen] at this
          exact this
      clear hr
      go_wp2_with fail
      go_ret
      exact ⟨rfl, by rw [HB.out]; exact HBEL.out⟩
end Go.Proofs.YtocgjpijjghiiaaDoor

