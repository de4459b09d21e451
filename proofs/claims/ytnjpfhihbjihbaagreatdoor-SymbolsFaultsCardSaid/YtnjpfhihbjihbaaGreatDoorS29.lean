/- Joined texts: Toks16, Fn20, OpenDfn. -/
import Derived.Test.YtnjpfhihbjihbaaGreatDoorS01
import Derived.Test.YtnjpfhihbjihbaaGreatDoorS09
import Derived.Test.YtnjpfhihbjihbaaGreatDoorS12
import Derived.Test.YtnjpfhihbjihbaaGreatDoorS19
import Derived.Test.YtnjpfhihbjihbaaGreatDoorS26
import Derived.Test.YtnjpfhihbjihbaaGreatDoorS27
import Derived.Test.YtnjpfhihbjihbaaGreatDoorS28
/- The reference's tokens of a line. (Written by wip/gen_toks16.py.) -/
namespace Go.Proofs.YtnjpfhihbjihbaaGreatDoor
open Go.RowKit Go.Sort

theorem infoTok16 : (Tryz.prog.info? 123).map (fun i => (i.zero, i.size, i.bytes)) = some (some (.agg #[.int .i64 0, .string ⟨#[]⟩, .int .i64 0, .int .i64 0]), 4, 40) := by kernel_rfl
set_option maxHeartbeats 4000000 in
set_option maxRecDepth 100000 in
theorem toks16_any (s : ByteArray) (w : World) : Calls Tryz.prog 35 #[.string s] w (TokRes (toksP s) w) := by
  obtain ⟨R, hR⟩ : ∃ R, toksP s = R := ⟨_, rfl⟩
  rw [hR]
  unfold toksP at hR
  by_cases hbig : 1024 < s.size
  · rw [if_pos hbig] at hR
    subst hR
    have hbig' : (1024 : Int) < (s.size : Int) := by omega
    go_enter Tryz.func35, Tryz.ntmps35
    go_wp2_with fail
    go_ret2
    exact ⟨rfl, Below.refl _ _⟩
  · rw [if_neg hbig] at hR
    have hbig' : ¬ (1024 : Int) < (s.size : Int) := by omega
    have HR := Lib.hid hR; clear hR
    obtain ⟨i0, hi, hz0, hz1, hz2⟩ := info_parts infoTok16
    go_enter Tryz.func35, Tryz.ntmps35
    go_wp2_with fail
    go_loopw [4, 5, 6, 7, 8] (fun v a _ _ _ wr => ∃ (k : Nat) (acc : List Tok), k ≤ s.size ∧ acc.length ≤ k ∧ a = .int .i64 k ∧ wr.ownsRow w.heap.size 123 4 v acc.length (tokc acc) ∧ Below w.heap.size w wr ∧ Hid (toksGo s k acc = R)) (fun _ a _ _ _ _ => s.size + 1 - (intOf a).toNat)
    case atStart => exact ⟨0, [], Nat.zero_le _, Nat.le_refl _, rfl, World.ownsRow_nil _ _ _ _, Below.refl _ _, HR⟩
    case round =>
      obtain ⟨k, acc, hk, hac, rfl, hown, hbel, HK⟩ := hrel
      have HOWN := Lib.hid hown; clear hown
      have HBEL := Lib.hid hbel; clear hbel
      go_wp2_with fail
      go_loop [5] (fun a => ∃ j : Nat, k ≤ j ∧ j ≤ s.size ∧ a = .int .i64 j ∧ Hid (skipEnd s k = skipEnd s j)) (fun a => s.size - (intOf a).toNat)
      case atStart => exact ⟨k, Nat.le_refl _, hk, rfl, Lib.hid rfl⟩
      case round =>
        obtain ⟨j, hkj, hj, rfl, HJ⟩ := hrel

        by_cases hlt : j < s.size
        · have hj0 : (0 : Int) ≤ (j : Int) := by omega
          have hj1 : (j : Int) < (s.size : Int) := by omega
          by_cases h32 : s[j] = 32
          · have h32' : (s[j].toNat : Int) = 32 := by rw [h32]; rfl
            have hst := skipEnd_go s j hlt (.inl h32)
            have HST := Lib.hid hst; clear hst h32
            go_wp2_with fail
            go_round
            case rel => exact ⟨j + 1, by omega, by omega, by go_num, Lib.hid (by rw [HJ.out, HST.out])⟩
            case measure => simp [intOf]; omega
          by_cases h9 : s[j] = 9
          · have h9' : (s[j].toNat : Int) = 9 := by rw [h9]; rfl
            have hst := skipEnd_go s j hlt (.inr h9)
            have n32 : ((s[j].toNat : Int) == 32) = false := by rw [h9']; rfl
            have HST := Lib.hid hst; clear hst h9
            clear h32
            go_wp2_with fail
            go_round
            case rel => exact ⟨j + 1, by omega, by omega, by go_num, Lib.hid (by rw [HJ.out, HST.out])⟩
            case measure => simp [intOf]; omega
          have hsk : skipEnd s k = j := by rw [HJ.out]; exact skipEnd_no s j hlt (fun h => h.elim h32 h9)
          have HSK := Lib.hid hsk; clear hsk HJ
          have n32 : ((s[j].toNat : Int) == 32) = false := beq_eq_false_iff_ne.2 (fun h => h32 (UInt8.toNat_inj.1 (by show s[j].toNat = 32; omega)))
          have n9 : ((s[j].toNat : Int) == 9) = false := beq_eq_false_iff_ne.2 (fun h => h9 (UInt8.toNat_inj.1 (by show s[j].toNat = 9; omega)))
          clear h32 h9
          have hjn : ((j : Int) == (s.size : Int)) = false := by simp; omega
          by_cases h59 : s[j] = 59
          · have h59' : ((s[j].toNat : Int) == 59) = true := by rw [h59]; rfl
            have hmo : moreAt s j = false := by unfold moreAt; rw [← bat_get s j hlt, h59]; simp
            clear h59
            have hmore : moreAt s (skipEnd s k) = false := by rw [HSK.out]; exact hmo
            have hend := toksGo_end s k acc hmore
            rw [HSK.out] at hend
            have HEND := Lib.hid hend; clear hend hmore hmo
            obtain ⟨wo, hwo⟩ : ∃ wo : World, wo = wr := ⟨_, rfl⟩
            have hsz : w.heap.size ≤ wr.heap.size := HBEL.out.size
            clear hwo
            go_wp2_with (at_builtin; refine wpList_append_own _ rfl _ _ 77 rfl w.heap.size 123 i0 (.agg #[.int .i64 0, .string ⟨#[]⟩, .int .i64 0, .int .i64 0]) 4 40 Tryz.underlying77 hi hz0 hz1 hz2 rfl (by decide) _ _ _ rfl (owns_below' HOWN.out (by (repeat (first | exact Below.refl _ _ | refine Below.drew ?_ | (refine below_gw' ?_ (by first | omega | (simp [go_sem]; done) | (simp [go_sem]; omega)) _) | (refine Below.alloc ?_ (by first | omega | (simp [go_sem]; done) | (simp [go_sem]; omega)) _) | (refine Below.setCell ?_ (by first | omega | (simp [go_sem]; done) | (simp [go_sem]; omega)) _))))) _ 1 1 [.int .i64 0, .string ⟨#[]⟩, .int .i64 0, .int .i64 j] rfl rfl ?c1 ?c2 ?c3 ?c4 ?c5 ?_)
            try case c1 =>
              intro q u hq
              rw [addr_add]
              match q, hq with
              | 0, hq => simp at hq; subst hq; simp [go_sem]
              | 1, hq => simp at hq; subst hq; simp [go_sem]
              | 2, hq => simp at hq; subst hq; simp [go_sem]
              | 3, hq => simp at hq; subst hq; simp [go_sem]
            case c2 => first | exact ⟨rfl, rfl, rfl, rfl⟩ | (intro u hu; simp at hu; rcases hu with rfl | rfl | rfl | rfl <;> rfl) | rfl
            case c3 => unfold maxLen; omega
            case c4 => omega
            case c5 => (first | omega | (simp [go_sem]; done) | (simp [go_sem]; omega))
            intro v' w1 hown' hgrow _
            have hb' : Below w.heap.size w w1 := (HBEL.out.trans (Below.mono (show Below wr.heap.size wr _ by (repeat (first | exact Below.refl _ _ | refine Below.drew ?_ | (refine below_gw' ?_ (by first | omega | (simp [go_sem]; done) | (simp [go_sem]; omega)) _) | (refine Below.alloc ?_ (by first | omega | (simp [go_sem]; done) | (simp [go_sem]; omega)) _) | (refine Below.setCell ?_ (by first | omega | (simp [go_sem]; done) | (simp [go_sem]; omega)) _)))) hsz)).grown hgrow (by simp [go_sem]; omega) (by
              intro q hq
              have := HOWN.out.2
              rcases this with ⟨h, _⟩ | ⟨g, cap, cur, h, hg, _⟩
              · rw [h] at hq; cases hq
              · rw [h] at hq; cases hq; exact hg)
            have HOWN3 := Lib.hid hown'; clear hown'
            have HB' := Lib.hid hb'; clear hb' hgrow
            go_wp2_with fail
            go_ret2
            rw [← HK.out, HEND.out]
            refine ⟨_, rfl, ?_, HB'.out⟩
            have hrow := Row.of_owns HOWN3.out
            rw [tokc_one] at hrow
            rw [List.length_append]; exact hrow
          · have h59' : ((s[j].toNat : Int) == 59) = false := beq_eq_false_iff_ne.2 (fun h => h59 (UInt8.toNat_inj.1 (by show s[j].toNat = 59; omega)))
            have hmo : moreAt s (skipEnd s k) = true := by rw [HSK.out]; unfold moreAt; rw [← bat_get s j hlt]; simp [hlt, h59]
            clear h59
            have hnx := fun w => next16_any s j w hlt (by omega)
            have hsz : w.heap.size ≤ wr.heap.size := HBEL.out.size
            have hcase : (∃ e, nextP s j = .error e) ∨ ∃ t n, nextP s j = .ok (t, n) := by
              cases nextP s j with
              | error e => exact .inl ⟨e, rfl⟩
              | ok x => exact .inr ⟨x.1, x.2, rfl⟩
            rcases hcase with ⟨c, hn⟩ | ⟨⟨tk, tt, tn, ta⟩, n, hn⟩
            · have herr := toksGo_err s k acc c hmo (by rw [HSK.out]; exact hn)
              have hc0 : (c != 0) = true := by rcases nextP_err s j c hn with rfl | rfl <;> rfl
              simp only [hn, nextR] at hnx
              have HERR := Lib.hid herr; clear herr hmo hn
              have HNX := Lib.hid hnx; clear hnx
              go_wp2_with fail
              refine (HNX.out _).mono ?_
              rintro e w1 ⟨rfl, hb⟩
              obtain ⟨p1, rfl⟩ := gw_of_below hb
              clear hb
              go_wp2_with fail
              go_ret2
              rw [← HK.out, HERR.out]
              exact ⟨rfl, HBEL.out.trans (Below.mono (show Below wr.heap.size wr _ by (repeat (first | exact Below.refl _ _ | refine Below.drew ?_ | (refine below_gw' ?_ (by first | omega | (simp [go_sem]; done) | (simp [go_sem]; omega)) _) | (refine Below.alloc ?_ (by first | omega | (simp [go_sem]; done) | (simp [go_sem]; omega)) _) | (refine Below.setCell ?_ (by first | omega | (simp [go_sem]; done) | (simp [go_sem]; omega)) _)))) hsz)⟩
            · have hstp := toksGo_step s k acc ⟨tk, tt, tn, ta⟩ n hmo (by rw [HSK.out]; exact hn)
              have hbd := nextP_bd s j hlt _ n hn
              simp only [hn, nextR] at hnx
              have HSTP := Lib.hid hstp; clear hstp hmo hn
              have HNX := Lib.hid hnx; clear hnx
              obtain ⟨hb1, hb2, hb3, hb4, hb5⟩ := hbd
              go_wp2_with fail
              refine (HNX.out _).mono ?_
              rintro e w1 ⟨rfl, hb⟩
              obtain ⟨p1, rfl⟩ := gw_of_below hb
              clear hb
              go_wp2_with (at_builtin; refine wpList_append_own _ rfl _ _ 77 rfl w.heap.size 123 i0 (.agg #[.int .i64 0, .string ⟨#[]⟩, .int .i64 0, .int .i64 0]) 4 40 Tryz.underlying77 hi hz0 hz1 hz2 rfl (by decide) _ _ _ rfl (owns_below' HOWN.out (by (repeat (first | exact Below.refl _ _ | refine Below.drew ?_ | (refine below_gw' ?_ (by first | omega | (simp [go_sem]; done) | (simp [go_sem]; omega)) _) | (refine Below.alloc ?_ (by first | omega | (simp [go_sem]; done) | (simp [go_sem]; omega)) _) | (refine Below.setCell ?_ (by first | omega | (simp [go_sem]; done) | (simp [go_sem]; omega)) _))))) _ 1 1 [.int .i64 tk, .string tt, .int .i64 tn, .int .i64 ta] rfl rfl ?d1 ?d2 ?d3 ?d4 ?d5 ?_)
              try case d1 =>
                intro q u hq
                rw [addr_add]
                match q, hq with
                | 0, hq => simp at hq; subst hq; simp [go_sem]
                | 1, hq => simp at hq; subst hq; simp [go_sem]
                | 2, hq => simp at hq; subst hq; simp [go_sem]
                | 3, hq => simp at hq; subst hq; simp [go_sem]
              case d2 => first | exact ⟨rfl, rfl, rfl, rfl⟩ | (intro u hu; simp at hu; rcases hu with rfl | rfl | rfl | rfl <;> rfl) | rfl
              case d3 => unfold maxLen; omega
              case d4 => omega
              case d5 => (first | omega | (simp [go_sem]; done) | (simp [go_sem]; omega))
              intro v' w2 hown' hgrow _
              have hb' : Below w.heap.size w w2 := (HBEL.out.trans (Below.mono (show Below wr.heap.size wr _ by (repeat (first | exact Below.refl _ _ | refine Below.drew ?_ | (refine below_gw' ?_ (by first | omega | (simp [go_sem]; done) | (simp [go_sem]; omega)) _) | (refine Below.alloc ?_ (by first | omega | (simp [go_sem]; done) | (simp [go_sem]; omega)) _) | (refine Below.setCell ?_ (by first | omega | (simp [go_sem]; done) | (simp [go_sem]; omega)) _)))) hsz)).grown hgrow (by simp [go_sem]; omega) (by
                intro q hq
                have := HOWN.out.2
                rcases this with ⟨h, _⟩ | ⟨g, cap, cur, h, hg, _⟩
                · rw [h] at hq; cases hq
                · rw [h] at hq; cases hq; exact hg)
              have HOWN3 := Lib.hid hown'; clear hown'
              have HB' := Lib.hid hb'; clear hb' hgrow
              go_wp2_with fail
              go_roundw
              case rel => exact ⟨n, acc ++ [⟨tk, tt, tn, ta⟩], by omega, by rw [List.length_append, List.length_singleton]; omega, rfl, by rw [← tokc_one, List.length_append]; exact HOWN3.out, HB'.out, Lib.hid (by rw [← HSTP.out]; exact HK.out)⟩
              case measure => simp [intOf]; omega
        · obtain rfl : j = s.size := by omega
          have hsk : skipEnd s k = s.size := by rw [HJ.out]; exact skipEnd_out s _ hlt
          have HSK := Lib.hid hsk; clear hsk HJ
          have hmo : moreAt s s.size = false := by unfold moreAt; simp
          have hmore : moreAt s (skipEnd s k) = false := by rw [HSK.out]; exact hmo
          have hend := toksGo_end s k acc hmore
          rw [HSK.out] at hend
          have HEND := Lib.hid hend; clear hend hmore hmo
          obtain ⟨wo, hwo⟩ : ∃ wo : World, wo = wr := ⟨_, rfl⟩
          have hsz : w.heap.size ≤ wr.heap.size := HBEL.out.size
          clear hwo
          go_wp2_with (at_builtin; refine wpList_append_own _ rfl _ _ 77 rfl w.heap.size 123 i0 (.agg #[.int .i64 0, .string ⟨#[]⟩, .int .i64 0, .int .i64 0]) 4 40 Tryz.underlying77 hi hz0 hz1 hz2 rfl (by decide) _ _ _ rfl (owns_below' HOWN.out (by (repeat (first | exact Below.refl _ _ | refine Below.drew ?_ | (refine below_gw' ?_ (by first | omega | (simp [go_sem]; done) | (simp [go_sem]; omega)) _) | (refine Below.alloc ?_ (by first | omega | (simp [go_sem]; done) | (simp [go_sem]; omega)) _) | (refine Below.setCell ?_ (by first | omega | (simp [go_sem]; done) | (simp [go_sem]; omega)) _))))) _ 1 1 [.int .i64 0, .string ⟨#[]⟩, .int .i64 0, .int .i64 s.size] rfl rfl ?e1 ?e2 ?e3 ?e4 ?e5 ?_)
          try case e1 =>
            intro q u hq
            rw [addr_add]
            match q, hq with
            | 0, hq => simp at hq; subst hq; simp [go_sem]
            | 1, hq => simp at hq; subst hq; simp [go_sem]
            | 2, hq => simp at hq; subst hq; simp [go_sem]
            | 3, hq => simp at hq; subst hq; simp [go_sem]
          case e2 => first | exact ⟨rfl, rfl, rfl, rfl⟩ | (intro u hu; simp at hu; rcases hu with rfl | rfl | rfl | rfl <;> rfl) | rfl
          case e3 => unfold maxLen; omega
          case e4 => omega
          case e5 => (first | omega | (simp [go_sem]; done) | (simp [go_sem]; omega))
          intro v' w1 hown' hgrow _
          have hb' : Below w.heap.size w w1 := (HBEL.out.trans (Below.mono (show Below wr.heap.size wr _ by (repeat (first | exact Below.refl _ _ | refine Below.drew ?_ | (refine below_gw' ?_ (by first | omega | (simp [go_sem]; done) | (simp [go_sem]; omega)) _) | (refine Below.alloc ?_ (by first | omega | (simp [go_sem]; done) | (simp [go_sem]; omega)) _) | (refine Below.setCell ?_ (by first | omega | (simp [go_sem]; done) | (simp [go_sem]; omega)) _)))) hsz)).grown hgrow (by simp [go_sem]; omega) (by
            intro q hq
            have := HOWN.out.2
            rcases this with ⟨h, _⟩ | ⟨g, cap, cur, h, hg, _⟩
            · rw [h] at hq; cases hq
            · rw [h] at hq; cases hq; exact hg)
          have HOWN3 := Lib.hid hown'; clear hown'
          have HB' := Lib.hid hb'; clear hb' hgrow
          go_wp2_with fail
          go_ret2
          rw [← HK.out, HEND.out]
          refine ⟨_, rfl, ?_, HB'.out⟩
          have hrow := Row.of_owns HOWN3.out
          rw [tokc_one] at hrow
          rw [List.length_append]; exact hrow
end Go.Proofs.YtnjpfhihbjihbaaGreatDoor

/- The law's own functions: node, symbol. -/
namespace Go.Proofs.YtnjpfhihbjihbaaGreatDoor
open Go.RowKit Go.Sort

def NdRes (s : ByteArray) (w : World) (e : Ending) (w' : World) : Prop := ∃ v, e = .returned v ∧ OptAt 130 w' (parseL s).2 v ∧ Below w.heap.size w w'
set_option maxHeartbeats 1000000 in
set_option maxRecDepth 100000 in
theorem node20_any (s : ByteArray) (w : World) : Calls Tryz.prog 13 #[.string s] w (NdRes s w) := by
  have htk := fun w => toks_any s w
  unfold TokRes at htk
  rcases ht : toksP s with c | l
  · rw [ht] at htk
    have hPL : parseL s = (c, none) := by unfold parseL; rw [ht]
    have hc : (c != 0) = true := by rcases toksP_code ht with rfl | rfl | rfl <;> rfl
    have HPL := Lib.hid hPL; clear hPL ht
    have HTK := Lib.hid htk; clear htk
    go_enter Tryz.func13, Tryz.ntmps13
    go_wp2_with fail
    (with_reducible refine (HTK.out _).mono ?_)
    rintro e w1 ⟨rfl, hb1⟩
    obtain ⟨p1, rfl⟩ := gw_of_below hb1
    clear hb1
    go_wp2_with fail
    go_ret
    exact ⟨_, rfl, by rw [HPL.out]; rfl, by (repeat (first | exact Below.refl _ _ | refine Below.drew ?_ | (refine below_gw' ?_ (by first | omega | (simp [go_sem]; done) | (simp [go_sem]; omega)) _) | (refine Below.alloc ?_ (by first | omega | (simp [go_sem]; done) | (simp [go_sem]; omega)) _) | (refine Below.setCell ?_ (by first | omega | (simp [go_sem]; done) | (simp [go_sem]; omega)) _)))⟩
  · rw [ht] at htk
    have hok := toksP_ok ht
    have hPL : parseL s = parseR l.dropLast := by unfold parseL; rw [ht]
    have HPL := Lib.hid hPL; clear hPL ht
    have HTK := Lib.hid htk; clear htk
    have hl1 : (1 : Int) ≤ (l.length : Int) := by omega
    have hl2 : (l.length : Int) ≤ 1025 := by omega
    have hl0 : ((l.length : Int) == 0) = false := by rw [beq_eq_false_iff_ne]; omega
    have HOK := Lib.hid hok; clear hok
    go_enter Tryz.func13, Tryz.ntmps13
    go_wp2_with fail
    (with_reducible refine (HTK.out _).mono ?_)
    rintro e w1 ⟨v, rfl, hrow, hb1⟩
    obtain ⟨p1, rfl⟩ := gw_of_below hb1
    clear hb1
    obtain ⟨g, o, cap, rfl, hcap, hg, htk, hsub⟩ := hrow.tok2 (by rintro rfl; simp at hl1)
    have hrs := hsub 0 (l.length - 1) (some ⟨g, o, none⟩) cap (Nat.zero_le _) (by omega) (fun _ => by simp) (by omega)
    rw [dropLast_part, Nat.sub_zero] at hrs
    have hpa := fun w hr => parse_any l.dropLast (.slice (some ⟨g, o, none⟩) (l.length - 1) cap) w hr HOK.out.1.sub (by rw [List.length_dropLast]; omega)
    have HRS := Lib.hid hrs; clear hrs hsub htk hrow
    have HPA := Lib.hid hpa; clear hpa
    have hc1 : (l.length : Int) ≤ (cap : Int) := by omega
    go_wp2_with fail
    (with_reducible refine (HPA.out _ HRS.out).mono ?_)
    rintro e w2 ⟨vt, rfl, ho, hb2⟩
    have HO := Lib.hid ho; clear ho
    have HB : Hid (Below w.heap.size w w2) := Lib.hid (Below.trans (b := gw w p1) (by (repeat (first | exact Below.refl _ _ | refine Below.drew ?_ | (refine below_gw' ?_ (by first | omega | (simp [go_sem]; done) | (simp [go_sem]; omega)) _) | (refine Below.alloc ?_ (by first | omega | (simp [go_sem]; done) | (simp [go_sem]; omega)) _) | (refine Below.setCell ?_ (by first | omega | (simp [go_sem]; done) | (simp [go_sem]; omega)) _)))) (hb2.mono (by (first | omega | (simp [go_sem]; done) | (simp [go_sem]; omega))))); clear hb2
    go_wp2_with fail
    go_ret
    exact ⟨_, rfl, by rw [HPL.out]; exact HO.out, HB.out⟩
theorem gw_heap (u : World) (p : Regrown) : (gw u p).heap = u.heap ++ p.os := rfl
theorem NodeAt.keepT {T : TypeId} {B : Nat} {w w' : World} (hk : ∀ (k : Nat) (c : Array Value) (r : Nat × Nat), w.heap[k]? = some (Obj.cells c T r) → w'.heap[k]? = some (Obj.cells c T r)) : ∀ (x : Ex) (v : Value), NodeAt T B w x v → NodeAt T B w' x v
  | .num _, _, ⟨g, h1, h2, h3⟩ => ⟨g, h1, h2, hk _ _ _ h3⟩
  | .sym _, _, ⟨g, h1, h2, h3⟩ => ⟨g, h1, h2, hk _ _ _ h3⟩
  | .here, _, ⟨g, h1, h2, h3⟩ => ⟨g, h1, h2, hk _ _ _ h3⟩
  | .un _ a, _, ⟨g, va, h1, h2, h3, h4⟩ => ⟨g, va, h1, h2, hk _ _ _ h3, NodeAt.keepT hk a va h4⟩
  | .bin _ a b, _, ⟨g, va, vb, h1, h2, h3, h4, h5⟩ => ⟨g, va, vb, h1, h2, hk _ _ _ h3, NodeAt.keepT hk a va h4, NodeAt.keepT hk b vb h5⟩
theorem OptAt.swap {T : TypeId} {u v : World} (hs : u.heap.size = v.heap.size) (hk : ∀ (k : Nat) (c : Array Value) (r : Nat × Nat), u.heap[k]? = some (Obj.cells c T r) → v.heap[k]? = some (Obj.cells c T r)) (p q : Regrown) {o : Option Ex} {x : Value} (h : OptAt T (gw (gw u p) q) o x) : OptAt T (gw (gw v p) q) o x := by
  cases o with
  | none => exact h
  | some y =>
    refine NodeAt.keepT (fun k c r hkk => ?_) y x h
    rw [gw_heap, gw_heap, Array.append_assoc] at hkk ⊢
    rw [Array.getElem?_append] at hkk ⊢
    rw [hs] at hkk
    split
    · rename_i h1; rw [if_pos h1] at hkk; exact hk k c r hkk
    · rename_i h1; rw [if_neg h1] at hkk; exact hkk
theorem swap3 {T T1 T2 : TypeId} {w : World} {a b c b2 c2 : Array Value} {r0 r1 r2 : Nat × Nat} {k : Nat} {x : Array Value} {r : Nat × Nat} (h2 : T2 ≠ T) (h : (((w.alloc (Obj.cells a T1 r0)).alloc (Obj.cells b T2 r1)).alloc (Obj.cells c T2 r2)).heap[k]? = some (Obj.cells x T r)) :
    (((w.alloc (Obj.cells a T1 r0)).alloc (Obj.cells b2 T2 r1)).alloc (Obj.cells c2 T2 r2)).heap[k]? = some (Obj.cells x T r) := by
  simp only [World.alloc, Array.getElem?_push, Array.size_push] at h ⊢
  split at h
  · cases h; exact absurd rfl h2
  · rename_i n1
    rw [if_neg n1]
    split at h
    · cases h; exact absurd rfl h2
    · rename_i n2
      rw [if_neg n2]
      exact h
def dfnV (d : Dfn) : Value := .agg #[.string d.name, .int .i64 d.n, .string d.text, .int .i64 d.here, .int .i64 d.line]
/-- What symbol leaves. -/
def SymRes (d : Dfn) (w : World) (e : Ending) (w' : World) : Prop := ∃ p, e = .returned (.tuple #[.agg #[.string d.name, .int .i64 d.n, .pointer p, .int .i64 d.here, .int .i64 d.line], .bool (symD d).isSome]) ∧ (∀ s, symD d = some s → OptAt 89 w' s.ex (.pointer p)) ∧ Below w.heap.size w w'
set_option maxHeartbeats 2000000 in
set_option maxRecDepth 100000 in
theorem symbol20_any (d : Dfn) (w : World) (hd1 : d.name.size ≤ maxLen) (hd2 : d.text.size ≤ maxLen) : Calls Tryz.prog 10 #[dfnV d] w (SymRes d w) := by
  unfold maxLen at hd1 hd2
  obtain ⟨R, hR⟩ : ∃ R, symD d = R := ⟨_, rfl⟩
  unfold SymRes
  rw [hR]
  unfold symD at hR
  rcases d.cases with hs | hs
  · rw [if_pos hs] at hR
    unfold Dfn.small at hs
    obtain ⟨name, n, text, here, line⟩ := d
    dsimp only [dfnV] at *
    obtain ⟨h1, h2, h3, h4, h5, h6⟩ := hs
    have q1 : (name.size : Int) ≤ 50 := by omega
    have q2 : (text.size : Int) ≤ 100 := by omega
    by_cases ht0 : text.data.toList = []
    · rw [if_pos ht0] at hR
      have t1 : text.toList = [] := by rw [ByteArray.toList_eq]; exact ht0
      have t2 : (!text.toList.isEmpty) = false := by rw [t1]; rfl
      have HR := Lib.hid hR; clear hR ht0
      go_enter Tryz.func10, Tryz.ntmps10
      go_wp2_with fail
      refine bodyPost_ret (v := .tuple #[.agg #[.string name, .int .i64 n, .pointer none, .int .i64 here, .int .i64 line], .bool true]) (by simp [results, Tryz.results10, go_sem]) rfl ?_
      exact ⟨none, by rw [← HR.out]; rfl, (fun s hs => by rw [← HR.out] at hs; cases hs; rfl), by (repeat (first | exact Below.refl _ _ | refine Below.drew ?_ | (refine below_gw' ?_ (by first | omega | (simp [go_sem]; done) | (simp [go_sem]; omega)) _) | (refine Below.alloc ?_ (by first | omega | (simp [go_sem]; done) | (simp [go_sem]; omega)) _) | (refine Below.setCell ?_ (by first | omega | (simp [go_sem]; done) | (simp [go_sem]; omega)) _)))⟩
    · rw [if_neg ht0] at hR
      have t2 : (!text.toList.isEmpty) = true := by
        rw [ByteArray.toList_eq]
        rcases hh : text.data.toList with _ | ⟨a, l⟩
        · exact absurd hh ht0
        · rfl
      have t3 : text.toList.isEmpty = false := by simpa using t2
      clear ht0
      have htk := fun w => toks16_any text w
      unfold TokRes at htk
      rcases ht : toksP text with c | l
      · rw [ht] at htk hR
        have hc : (c != 0) = true := by rcases toksP_code ht with rfl | rfl | rfl <;> rfl
        have HR := Lib.hid hR; clear hR ht
        have HTK := Lib.hid htk; clear htk
        go_enter Tryz.func10, Tryz.ntmps10
        go_wp2_with fail
        (with_reducible refine (HTK.out _).mono ?_)
        rintro e w1 ⟨rfl, hb1⟩
        obtain ⟨p1, rfl⟩ := gw_of_below hb1
        clear hb1
        go_wp2_with fail
        refine bodyPost_ret (v := .tuple #[.agg #[.string name, .int .i64 n, .pointer none, .int .i64 here, .int .i64 line], .bool false]) (by simp [results, Tryz.results10, go_sem]) rfl ?_
        exact ⟨none, by rw [← HR.out]; rfl, (fun s hs => by rw [← HR.out] at hs; cases hs), by (repeat (first | exact Below.refl _ _ | refine Below.drew ?_ | (refine below_gw' ?_ (by first | omega | (simp [go_sem]; done) | (simp [go_sem]; omega)) _) | (refine Below.alloc ?_ (by first | omega | (simp [go_sem]; done) | (simp [go_sem]; omega)) _) | (refine Below.setCell ?_ (by first | omega | (simp [go_sem]; done) | (simp [go_sem]; omega)) _)))⟩
      · rw [ht] at htk hR
        have hok := toksP_ok ht
        have HTK := Lib.hid htk; clear htk ht
        have hl1 : (1 : Int) ≤ (l.length : Int) := by omega
        have hl2 : (l.length : Int) ≤ 1025 := by omega
        have HOK := Lib.hid hok; clear hok
        dsimp only at hR
        have HR := Lib.hid hR; clear hR
        go_enter Tryz.func10, Tryz.ntmps10
        go_wp2_with fail
        (with_reducible refine (HTK.out _).mono ?_)
        rintro e w1 ⟨v, rfl, hrow, hb1⟩
        obtain ⟨p1, rfl⟩ := gw_of_below hb1
        clear hb1
        obtain ⟨g, o, cap, rfl, hcap, hg, htk, hsub⟩ := hrow.tok2 (by rintro rfl; simp at hl1)
        have hrs := hsub 0 (l.length - 1) (some ⟨g, o, none⟩) cap (Nat.zero_le _) (by omega) (fun _ => by simp) (by omega)
        rw [dropLast_part, Nat.sub_zero] at hrs
        have hpa := fun w hr => rparse_any l.dropLast (.slice (some ⟨g, o, none⟩) (l.length - 1) cap) w hr HOK.out.1.sub (by rw [List.length_dropLast]; omega)
        have HRS := Lib.hid hrs; clear hrs hsub htk hrow
        have HPA := Lib.hid hpa; clear hpa
        have hc1 : (l.length : Int) ≤ (cap : Int) := by omega
        go_wp2_with fail
        (with_reducible refine (HPA.out _ HRS.out).mono ?_)
        rintro e w2 ⟨vt, rfl, ho, hb2⟩
        obtain ⟨p2, rfl⟩ := gw_of_below hb2
        clear hb2
        obtain ⟨q, rfl⟩ := ho.ptr
        have HO := Lib.hid ho; clear ho
        generalize (parseR l.dropLast).2 = X at *
        generalize (parseR l.dropLast).1 = C at *
        by_cases hC : C = 0
        · subst hC
          have hR2 := HR.out
          rw [if_pos rfl] at hR2
          have HR2 := Lib.hid hR2; clear hR2 HR
          go_wp2_with fail
          refine bodyPost_ret (v := .tuple #[.agg #[.string name, .int .i64 n, .pointer q, .int .i64 here, .int .i64 line], .bool true]) (by simp [results, Tryz.results10, go_sem]) rfl ?_
          exact ⟨q, by rw [← HR2.out]; rfl, (fun s hs => by rw [← HR2.out] at hs; cases hs; exact OptAt.swap (by show (Array.push (Array.push (Array.push _ _) _) _).size = (Array.push (Array.push (Array.push _ _) _) _).size; simp only [Array.size_push]) (fun k c r h => swap3 (by decide) h) p1 p2 HO.out), by (repeat (first | exact Below.refl _ _ | refine Below.drew ?_ | (refine below_gw' ?_ (by first | omega | (simp [go_sem]; done) | (simp [go_sem]; omega)) _) | (refine Below.alloc ?_ (by first | omega | (simp [go_sem]; done) | (simp [go_sem]; omega)) _) | (refine Below.setCell ?_ (by first | omega | (simp [go_sem]; done) | (simp [go_sem]; omega)) _)))⟩
        · have hR2 := HR.out
          rw [if_neg hC] at hR2
          have HR2 := Lib.hid hR2; clear hR2 HR
          have hcb : (C == 0) = false := by simpa using hC
          clear hC
          go_wp2_with fail
          refine bodyPost_ret (v := .tuple #[.agg #[.string name, .int .i64 n, .pointer q, .int .i64 here, .int .i64 line], .bool false]) (by simp [results, Tryz.results10, go_sem]) rfl ?_
          exact ⟨q, by rw [← HR2.out]; rfl, (fun s hs => by rw [← HR2.out] at hs; cases hs), by (repeat (first | exact Below.refl _ _ | refine Below.drew ?_ | (refine below_gw' ?_ (by first | omega | (simp [go_sem]; done) | (simp [go_sem]; omega)) _) | (refine Below.alloc ?_ (by first | omega | (simp [go_sem]; done) | (simp [go_sem]; omega)) _) | (refine Below.setCell ?_ (by first | omega | (simp [go_sem]; done) | (simp [go_sem]; omega)) _)))⟩
  · rw [if_neg (by unfold Dfn.small; omega)] at hR
    obtain ⟨name, n, text, here, line⟩ := d
    dsimp only [dfnV] at *
    have HR := Lib.hid hR; clear hR
    have hs' : (50 < (name.size : Int) ∨ (name.size : Int) ≤ 50 ∧ 100 < (text.size : Int) ∨ (name.size : Int) ≤ 50 ∧ (text.size : Int) ≤ 100 ∧ n < -2147483648 ∨ (name.size : Int) ≤ 50 ∧ (text.size : Int) ≤ 100 ∧ -2147483648 ≤ n ∧ 2147483648 ≤ n ∨
    (name.size : Int) ≤ 50 ∧ (text.size : Int) ≤ 100 ∧ -2147483648 ≤ n ∧ n < 2147483648 ∧ here < -2147483648 ∨ (name.size : Int) ≤ 50 ∧ (text.size : Int) ≤ 100 ∧ -2147483648 ≤ n ∧ n < 2147483648 ∧ -2147483648 ≤ here ∧ 2147483648 ≤ here) := by omega
    clear hs
    rcases hs' with h | ⟨h1, h⟩ | ⟨h1, h2, h⟩ | ⟨h1, h2, h3, h⟩ | ⟨h1, h2, h3, h4, h⟩ | ⟨h1, h2, h3, h4, h5, h⟩
    all_goals
      go_enter Tryz.func10, Tryz.ntmps10
      go_wp2_with fail
      refine bodyPost_ret (v := .tuple #[.agg #[.string name, .int .i64 n, .pointer none, .int .i64 here, .int .i64 line], .bool false]) (by simp [results, Tryz.results10, go_sem]) rfl ?_
      exact ⟨none, by rw [← HR.out]; rfl, (fun s hs => by rw [← HR.out] at hs; cases hs), by (repeat (first | exact Below.refl _ _ | refine Below.drew ?_ | (refine below_gw' ?_ (by first | omega | (simp [go_sem]; done) | (simp [go_sem]; omega)) _) | (refine Below.alloc ?_ (by first | omega | (simp [go_sem]; done) | (simp [go_sem]; omega)) _) | (refine Below.setCell ?_ (by first | omega | (simp [go_sem]; done) | (simp [go_sem]; omega)) _)))⟩
end Go.Proofs.YtnjpfhihbjihbaaGreatDoor

/- Definitions as arguments, opened. -/
namespace Go.Proofs.YtnjpfhihbjihbaaGreatDoor
open Go.RowKit Go.Sort

open Go.ChangeShapes Go.WideShapes
instance : Inhabited Dfn := ⟨⟨⟨#[]⟩, 0, ⟨#[]⟩, 0, 0⟩⟩
/-- The cells of a definition. -/
def dfnc (d : Dfn) : List Value := [.string d.name, .int .i64 d.n, .string d.text, .int .i64 d.here, .int .i64 d.line]
set_option maxRecDepth 100000 in
theorem dfn_cells {H : Type} {enc : TypeId × Value → H} {W : World} {base : Nat} {spare : Nat → Bool} {held : Bool} (cs : List Value) (n : Nat) (y : DataW H × List MemPlace) (hl : cs.length = 5) (h : DataW.trod enc Tryz.prog W base spare held n 24 cs = some y) :
    ∃ d : Dfn, cs = dfnc d ∧ d.name.size ≤ maxLen ∧ d.text.size ≤ maxLen := by
  have hsi : Tryz.prog.cellsOf 3 = 1 := by kernel_rfl
  have hss : Tryz.prog.cellsOf 9 = 1 := by kernel_rfl
  obtain ⟨xs, n, _, _, _, hlen, hg⟩ := DataW.trod_struct Tryz.underlying24 h
  match cs, hl with
  | [u0, u1, u2, u3, u4], _ =>
    match xs, hlen with
    | [y0, y1, y2, y3, y4], _ =>
      have g0 : _ = some y0 := hg 0 _ rfl
      have g1 : _ = some y1 := hg 1 _ rfl
      have g2 : _ = some y2 := hg 2 _ rfl
      have g3 : _ = some y3 := hg 3 _ rfl
      have g4 : _ = some y4 := hg 4 _ rfl
      obtain ⟨z0, k0, _, b0⟩ := DataW.trod_string Tryz.underlying9 g0
      obtain ⟨z1, k1, _, _⟩ := DataW.trod_int Tryz.underlying3 g1
      obtain ⟨z2, k2, _, b2⟩ := DataW.trod_string Tryz.underlying9 g2
      obtain ⟨z3, k3, _, _⟩ := DataW.trod_int Tryz.underlying3 g3
      obtain ⟨z4, k4, _, _⟩ := DataW.trod_int Tryz.underlying3 g4
      simp [hsi, hss] at k0 k1 k2 k3 k4
      subst k0 k1 k2 k3 k4
      exact ⟨⟨z0, z1, z2, z3, z4⟩, rfl, b0, b2⟩
set_option maxRecDepth 100000 in
theorem open_dfns {H : Type} {enc : TypeId × Value → H} {W w : World} {r : Reach} {base b0 : Nat} {spare : Nat → Bool} {held : Bool} {v : Value} {d : DataW H} {p : List MemPlace}
    (hv : Value.okWide Tryz.prog w r b0 22 v) (h : DataW.Trod enc Tryz.prog W base spare held 22 v d p) : ∃ L : List Dfn, Row W v L.length (L.flatMap dfnc) ∧ L.length ≤ maxLen ∧ ∀ d ∈ L, d.name.size ≤ maxLen ∧ d.text.size ≤ maxLen :=
  open_structs dfnc (fun d => d.name.size ≤ maxLen ∧ d.text.size ≤ maxLen) 5 (fun _ => rfl) (by decide) Tryz.underlying22 (by kernel_rfl) (fun cs n y hl hy => by exact dfn_cells cs n y hl hy) hv h
set_option maxRecDepth 100000 in
theorem open_dfn {H : Type} {enc : TypeId × Value → H} {W w : World} {r : Reach} {base b0 : Nat} {spare : Nat → Bool} {held : Bool} {v : Value} {d : DataW H} {p : List MemPlace}
    (hv : Value.okWide Tryz.prog w r b0 24 v) (h : DataW.Trod enc Tryz.prog W base spare held 24 v d p) : ∃ D : Dfn, v = dfnV D ∧ D.name.size ≤ maxLen ∧ D.text.size ≤ maxLen := by
  obtain ⟨cs, rfl, hsz⟩ := okWide_struct Tryz.underlying24 hv
  obtain ⟨l⟩ := cs
  have hC : Tryz.prog.cellsOf 24 = 5 := by kernel_rfl
  match l, hsz.trans hC with
  | [c0, c1, c2, c3, c4], _ =>
    obtain ⟨fuel, hf⟩ := h
    obtain ⟨D, e, h1, h2⟩ := dfn_cells _ _ _ rfl (show DataW.trod enc Tryz.prog W base spare held fuel 24 [c0, c1, c2, c3, c4] = some (d, p) by simpa [Value.cells] using hf)
    simp only [dfnc, List.cons.injEq, and_true] at e
    obtain ⟨rfl, rfl, rfl, rfl, rfl⟩ := e
    exact ⟨D, rfl, h1, h2⟩
end Go.Proofs.YtnjpfhihbjihbaaGreatDoor
