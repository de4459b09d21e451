/- Joined texts: Toks16, Fn17, Alive17. -/
import Derived.Test.YtpkbonfbehhbdaaGreatDoorE06
import Derived.Test.YtpkbonfbehhbdaaGreatDoorE09
import Derived.Test.YtpkbonfbehhbdaaGreatDoorE11
import Derived.Test.YtpkbonfbehhbdaaGreatDoorE20
import Derived.Test.YtpkbonfbehhbdaaGreatDoorE21
import Derived.Test.YtpkbonfbehhbdaaGreatDoorE29
import Derived.Test.YtpkbonfbehhbdaaGreatDoorE31
/- The reference's tokens of a line. (Written by wip/gen_toks16.py.) -/
namespace Go.Proofs.YtpkbonfbehhbdaaGreatDoor
open Go.RowKit Go.Sort

theorem infoTok16 : (Tryz.prog.info? 72).map (fun i => (i.zero, i.size, i.bytes)) = some (some (.agg #[.int .i64 0, .string ⟨#[]⟩, .int .i64 0, .int .i64 0]), 4, 40) := by kernel_rfl
set_option maxHeartbeats 4000000 in
set_option maxRecDepth 100000 in
theorem toks16_any (s : ByteArray) (w : World) : Calls Tryz.prog 31 #[.string s] w (TokRes (toksP s) w) := by
  obtain ⟨R, hR⟩ : ∃ R, toksP s = R := ⟨_, rfl⟩
  rw [hR]
  unfold toksP at hR
  by_cases hbig : 1024 < s.size
  · rw [if_pos hbig] at hR
    subst hR
    have hbig' : (1024 : Int) < (s.size : Int) := by omega
    go_enter Tryz.func31, Tryz.ntmps31
    go_wp2_with fail
    go_ret2
    exact ⟨rfl, Below.refl _ _⟩
  · rw [if_neg hbig] at hR
    have hbig' : ¬ (1024 : Int) < (s.size : Int) := by omega
    have HR := Lib.hid hR; clear hR
    obtain ⟨i0, hi, hz0, hz1, hz2⟩ := info_parts infoTok16
    go_enter Tryz.func31, Tryz.ntmps31
    go_wp2_with fail
    go_loopw [4, 5, 6, 7, 8] (fun v a _ _ _ wr => ∃ (k : Nat) (acc : List Tok), k ≤ s.size ∧ acc.length ≤ k ∧ a = .int .i64 k ∧ wr.ownsRow w.heap.size 72 4 v acc.length (tokc acc) ∧ Below w.heap.size w wr ∧ Hid (toksGo s k acc = R)) (fun _ a _ _ _ _ => s.size + 1 - (intOf a).toNat)
    case atStart => exact ⟨0, [], Nat.zero_le _, Nat.le_refl _, rfl, World.ownsRow_nil _ _ _ _, Below.refl _ _, HR⟩
    case round =>
      obtain ⟨k, acc, hk, hac, rfl, hown, hbel, HK⟩ := hrel
      have HOWN := Lib.hid hown; clear hown
      have HBEL := Lib.hid hbel; clear hbel
      go_wp2_with fail
      go_loop [5] (fun a => ∃ j : Nat, k ≤ j ∧ j ≤ s.size ∧ a = .int .i64 j ∧ Hid (skipEnd s k = skipEnd s j)) (fun a => s.size - (intOf a).toNat)
      case atStart => exact ⟨k, Nat.le_refl _, hk, rfl, Lib.hid rfl⟩
      case round =>
        obtain ⟨j, hkj, hj, rfl, HJ⟩ := hrel

        by_cases hlt : j < s.size
        · have hj0 : (0 : Int) ≤ (j : Int) := by omega
          have hj1 : (j : Int) < (s.size : Int) := by omega
          by_cases h32 : s[j] = 32
          · have h32' : (s[j].toNat : Int) = 32 := by rw [h32]; rfl
            have hst := skipEnd_go s j hlt (.inl h32)
            have HST := Lib.hid hst; clear hst h32
            go_wp2_with fail
            go_round
            case rel => exact ⟨j + 1, by omega, by omega, by go_num, Lib.hid (by rw [HJ.out, HST.out])⟩
            case measure => simp [intOf]; omega
          by_cases h9 : s[j] = 9
          · have h9' : (s[j].toNat : Int) = 9 := by rw [h9]; rfl
            have hst := skipEnd_go s j hlt (.inr h9)
            have n32 : ((s[j].toNat : Int) == 32) = false := by rw [h9']; rfl
            have HST := Lib.hid hst; clear hst h9
            clear h32
            go_wp2_with fail
            go_round
            case rel => exact ⟨j + 1, by omega, by omega, by go_num, Lib.hid (by rw [HJ.out, HST.out])⟩
            case measure => simp [intOf]; omega
          have hsk : skipEnd s k = j := by rw [HJ.out]; exact skipEnd_no s j hlt (fun h => h.elim h32 h9)
          have HSK := Lib.hid hsk; clear hsk HJ
          have n32 : ((s[j].toNat : Int) == 32) = false := beq_eq_false_iff_ne.2 (fun h => h32 (UInt8.toNat_inj.1 (by show s[j].toNat = 32; omega)))
          have n9 : ((s[j].toNat : Int) == 9) = false := beq_eq_false_iff_ne.2 (fun h => h9 (UInt8.toNat_inj.1 (by show s[j].toNat = 9; omega)))
          clear h32 h9
          have hjn : ((j : Int) == (s.size : Int)) = false := by simp; omega
          by_cases h59 : s[j] = 59
          · have h59' : ((s[j].toNat : Int) == 59) = true := by rw [h59]; rfl
            have hmo : moreAt s j = false := by unfold moreAt; rw [← bat_get s j hlt, h59]; simp
            clear h59
            have hmore : moreAt s (skipEnd s k) = false := by rw [HSK.out]; exact hmo
            have hend := toksGo_end s k acc hmore
            rw [HSK.out] at hend
            have HEND := Lib.hid hend; clear hend hmore hmo
            obtain ⟨wo, hwo⟩ : ∃ wo : World, wo = wr := ⟨_, rfl⟩
            have hsz : w.heap.size ≤ wr.heap.size := HBEL.out.size
            clear hwo
            go_wp2_with (at_builtin; refine wpList_append_own _ rfl _ _ 22 rfl w.heap.size 72 i0 (.agg #[.int .i64 0, .string ⟨#[]⟩, .int .i64 0, .int .i64 0]) 4 40 Tryz.underlying22 hi hz0 hz1 hz2 rfl (by decide) _ _ _ rfl (owns_below' HOWN.out (by (repeat (first | exact Below.refl _ _ | refine Below.drew ?_ | (refine below_gw' ?_ (by first | omega | (simp [go_sem]; done) | (simp [go_sem]; omega)) _) | (refine Below.alloc ?_ (by first | omega | (simp [go_sem]; done) | (simp [go_sem]; omega)) _) | (refine Below.setCell ?_ (by first | omega | (simp [go_sem]; done) | (simp [go_sem]; omega)) _))))) _ 1 1 [.int .i64 0, .string ⟨#[]⟩, .int .i64 0, .int .i64 j] rfl rfl ?c1 ?c2 ?c3 ?c4 ?c5 ?_)
            try case c1 =>
              intro q u hq
              rw [addr_add]
              match q, hq with
              | 0, hq => simp at hq; subst hq; simp [go_sem]
              | 1, hq => simp at hq; subst hq; simp [go_sem]
              | 2, hq => simp at hq; subst hq; simp [go_sem]
              | 3, hq => simp at hq; subst hq; simp [go_sem]
            case c2 => first | exact ⟨rfl, rfl, rfl, rfl⟩ | (intro u hu; simp at hu; rcases hu with rfl | rfl | rfl | rfl <;> rfl) | rfl
            case c3 => unfold maxLen; omega
            case c4 => omega
            case c5 => (first | omega | (simp [go_sem]; done) | (simp [go_sem]; omega))
            intro v' w1 hown' hgrow _
            have hb' : Below w.heap.size w w1 := (HBEL.out.trans (Below.mono (show Below wr.heap.size wr _ by (repeat (first | exact Below.refl _ _ | refine Below.drew ?_ | (refine below_gw' ?_ (by first | omega | (simp [go_sem]; done) | (simp [go_sem]; omega)) _) | (refine Below.alloc ?_ (by first | omega | (simp [go_sem]; done) | (simp [go_sem]; omega)) _) | (refine Below.setCell ?_ (by first | omega | (simp [go_sem]; done) | (simp [go_sem]; omega)) _)))) hsz)).grown hgrow (by simp [go_sem]; omega) (by
              intro q hq
              have := HOWN.out.2
              rcases this with ⟨h, _⟩ | ⟨g, cap, cur, h, hg, _⟩
              · rw [h] at hq; cases hq
              · rw [h] at hq; cases hq; exact hg)
            have HOWN3 := Lib.hid hown'; clear hown'
            have HB' := Lib.hid hb'; clear hb' hgrow
            go_wp2_with fail
            go_ret2
            rw [← HK.out, HEND.out]
            refine ⟨_, rfl, ?_, HB'.out⟩
            have hrow := Row.of_owns HOWN3.out
            rw [tokc_one] at hrow
            rw [List.length_append]; exact hrow
          · have h59' : ((s[j].toNat : Int) == 59) = false := beq_eq_false_iff_ne.2 (fun h => h59 (UInt8.toNat_inj.1 (by show s[j].toNat = 59; omega)))
            have hmo : moreAt s (skipEnd s k) = true := by rw [HSK.out]; unfold moreAt; rw [← bat_get s j hlt]; simp [hlt, h59]
            clear h59
            have hnx := fun w => next16_any s j w hlt (by omega)
            have hsz : w.heap.size ≤ wr.heap.size := HBEL.out.size
            have hcase : (∃ e, nextP s j = .error e) ∨ ∃ t n, nextP s j = .ok (t, n) := by
              cases nextP s j with
              | error e => exact .inl ⟨e, rfl⟩
              | ok x => exact .inr ⟨x.1, x.2, rfl⟩
            rcases hcase with ⟨c, hn⟩ | ⟨⟨tk, tt, tn, ta⟩, n, hn⟩
            · have herr := toksGo_err s k acc c hmo (by rw [HSK.out]; exact hn)
              have hc0 : (c != 0) = true := by rcases nextP_err s j c hn with rfl | rfl <;> rfl
              simp only [hn, nextR] at hnx
              have HERR := Lib.hid herr; clear herr hmo hn
              have HNX := Lib.hid hnx; clear hnx
              go_wp2_with fail
              refine (HNX.out _).mono ?_
              rintro e w1 ⟨rfl, hb⟩
              obtain ⟨p1, rfl⟩ := gw_of_below hb
              clear hb
              go_wp2_with fail
              go_ret2
              rw [← HK.out, HERR.out]
              exact ⟨rfl, HBEL.out.trans (Below.mono (show Below wr.heap.size wr _ by (repeat (first | exact Below.refl _ _ | refine Below.drew ?_ | (refine below_gw' ?_ (by first | omega | (simp [go_sem]; done) | (simp [go_sem]; omega)) _) | (refine Below.alloc ?_ (by first | omega | (simp [go_sem]; done) | (simp [go_sem]; omega)) _) | (refine Below.setCell ?_ (by first | omega | (simp [go_sem]; done) | (simp [go_sem]; omega)) _)))) hsz)⟩
            · have hstp := toksGo_step s k acc ⟨tk, tt, tn, ta⟩ n hmo (by rw [HSK.out]; exact hn)
              have hbd := nextP_bd s j hlt _ n hn
              simp only [hn, nextR] at hnx
              have HSTP := Lib.hid hstp; clear hstp hmo hn
              have HNX := Lib.hid hnx; clear hnx
              obtain ⟨hb1, hb2, hb3, hb4, hb5⟩ := hbd
              go_wp2_with fail
              refine (HNX.out _).mono ?_
              rintro e w1 ⟨rfl, hb⟩
              obtain ⟨p1, rfl⟩ := gw_of_below hb
              clear hb
              go_wp2_with (at_builtin; refine wpList_append_own _ rfl _ _ 22 rfl w.heap.size 72 i0 (.agg #[.int .i64 0, .string ⟨#[]⟩, .int .i64 0, .int .i64 0]) 4 40 Tryz.underlying22 hi hz0 hz1 hz2 rfl (by decide) _ _ _ rfl (owns_below' HOWN.out (by (repeat (first | exact Below.refl _ _ | refine Below.drew ?_ | (refine below_gw' ?_ (by first | omega | (simp [go_sem]; done) | (simp [go_sem]; omega)) _) | (refine Below.alloc ?_ (by first | omega | (simp [go_sem]; done) | (simp [go_sem]; omega)) _) | (refine Below.setCell ?_ (by first | omega | (simp [go_sem]; done) | (simp [go_sem]; omega)) _))))) _ 1 1 [.int .i64 tk, .string tt, .int .i64 tn, .int .i64 ta] rfl rfl ?d1 ?d2 ?d3 ?d4 ?d5 ?_)
              try case d1 =>
                intro q u hq
                rw [addr_add]
                match q, hq with
                | 0, hq => simp at hq; subst hq; simp [go_sem]
                | 1, hq => simp at hq; subst hq; simp [go_sem]
                | 2, hq => simp at hq; subst hq; simp [go_sem]
                | 3, hq => simp at hq; subst hq; simp [go_sem]
              case d2 => first | exact ⟨rfl, rfl, rfl, rfl⟩ | (intro u hu; simp at hu; rcases hu with rfl | rfl | rfl | rfl <;> rfl) | rfl
              case d3 => unfold maxLen; omega
              case d4 => omega
              case d5 => (first | omega | (simp [go_sem]; done) | (simp [go_sem]; omega))
              intro v' w2 hown' hgrow _
              have hb' : Below w.heap.size w w2 := (HBEL.out.trans (Below.mono (show Below wr.heap.size wr _ by (repeat (first | exact Below.refl _ _ | refine Below.drew ?_ | (refine below_gw' ?_ (by first | omega | (simp [go_sem]; done) | (simp [go_sem]; omega)) _) | (refine Below.alloc ?_ (by first | omega | (simp [go_sem]; done) | (simp [go_sem]; omega)) _) | (refine Below.setCell ?_ (by first | omega | (simp [go_sem]; done) | (simp [go_sem]; omega)) _)))) hsz)).grown hgrow (by simp [go_sem]; omega) (by
                intro q hq
                have := HOWN.out.2
                rcases this with ⟨h, _⟩ | ⟨g, cap, cur, h, hg, _⟩
                · rw [h] at hq; cases hq
                · rw [h] at hq; cases hq; exact hg)
              have HOWN3 := Lib.hid hown'; clear hown'
              have HB' := Lib.hid hb'; clear hb' hgrow
              go_wp2_with fail
              go_roundw
              case rel => exact ⟨n, acc ++ [⟨tk, tt, tn, ta⟩], by omega, by rw [List.length_append, List.length_singleton]; omega, rfl, by rw [← tokc_one, List.length_append]; exact HOWN3.out, HB'.out, Lib.hid (by rw [← HSTP.out]; exact HK.out)⟩
              case measure => simp [intOf]; omega
        · obtain rfl : j = s.size := by omega
          have hsk : skipEnd s k = s.size := by rw [HJ.out]; exact skipEnd_out s _ hlt
          have HSK := Lib.hid hsk; clear hsk HJ
          have hmo : moreAt s s.size = false := by unfold moreAt; simp
          have hmore : moreAt s (skipEnd s k) = false := by rw [HSK.out]; exact hmo
          have hend := toksGo_end s k acc hmore
          rw [HSK.out] at hend
          have HEND := Lib.hid hend; clear hend hmore hmo
          obtain ⟨wo, hwo⟩ : ∃ wo : World, wo = wr := ⟨_, rfl⟩
          have hsz : w.heap.size ≤ wr.heap.size := HBEL.out.size
          clear hwo
          go_wp2_with (at_builtin; refine wpList_append_own _ rfl _ _ 22 rfl w.heap.size 72 i0 (.agg #[.int .i64 0, .string ⟨#[]⟩, .int .i64 0, .int .i64 0]) 4 40 Tryz.underlying22 hi hz0 hz1 hz2 rfl (by decide) _ _ _ rfl (owns_below' HOWN.out (by (repeat (first | exact Below.refl _ _ | refine Below.drew ?_ | (refine below_gw' ?_ (by first | omega | (simp [go_sem]; done) | (simp [go_sem]; omega)) _) | (refine Below.alloc ?_ (by first | omega | (simp [go_sem]; done) | (simp [go_sem]; omega)) _) | (refine Below.setCell ?_ (by first | omega | (simp [go_sem]; done) | (simp [go_sem]; omega)) _))))) _ 1 1 [.int .i64 0, .string ⟨#[]⟩, .int .i64 0, .int .i64 s.size] rfl rfl ?e1 ?e2 ?e3 ?e4 ?e5 ?_)
          try case e1 =>
            intro q u hq
            rw [addr_add]
            match q, hq with
            | 0, hq => simp at hq; subst hq; simp [go_sem]
            | 1, hq => simp at hq; subst hq; simp [go_sem]
            | 2, hq => simp at hq; subst hq; simp [go_sem]
            | 3, hq => simp at hq; subst hq; simp [go_sem]
          case e2 => first | exact ⟨rfl, rfl, rfl, rfl⟩ | (intro u hu; simp at hu; rcases hu with rfl | rfl | rfl | rfl <;> rfl) | rfl
          case e3 => unfold maxLen; omega
          case e4 => omega
          case e5 => (first | omega | (simp [go_sem]; done) | (simp [go_sem]; omega))
          intro v' w1 hown' hgrow _
          have hb' : Below w.heap.size w w1 := (HBEL.out.trans (Below.mono (show Below wr.heap.size wr _ by (repeat (first | exact Below.refl _ _ | refine Below.drew ?_ | (refine below_gw' ?_ (by first | omega | (simp [go_sem]; done) | (simp [go_sem]; omega)) _) | (refine Below.alloc ?_ (by first | omega | (simp [go_sem]; done) | (simp [go_sem]; omega)) _) | (refine Below.setCell ?_ (by first | omega | (simp [go_sem]; done) | (simp [go_sem]; omega)) _)))) hsz)).grown hgrow (by simp [go_sem]; omega) (by
            intro q hq
            have := HOWN.out.2
            rcases this with ⟨h, _⟩ | ⟨g, cap, cur, h, hg, _⟩
            · rw [h] at hq; cases hq
            · rw [h] at hq; cases hq; exact hg)
          have HOWN3 := Lib.hid hown'; clear hown'
          have HB' := Lib.hid hb'; clear hb' hgrow
          go_wp2_with fail
          go_ret2
          rw [← HK.out, HEND.out]
          refine ⟨_, rfl, ?_, HB'.out⟩
          have hrow := Row.of_owns HOWN3.out
          rw [tokc_one] at hrow
          rw [List.length_append]; exact hrow
end Go.Proofs.YtpkbonfbehhbdaaGreatDoor

/- The law's own functions: parse, known, given. -/
namespace Go.Proofs.YtpkbonfbehhbdaaGreatDoor
open Go.RowKit Go.Sort

def PLRes (s : ByteArray) (w : World) (e : Ending) (w' : World) : Prop := ∃ vt, e = .returned (.tuple #[vt, .int .i64 (parseL s).1]) ∧ OptAt 80 w' (parseL s).2 vt ∧ Below w.heap.size w w'
set_option maxHeartbeats 1000000 in
set_option maxRecDepth 100000 in
theorem lparse_any (s : ByteArray) (w : World) : Calls Tryz.prog 20 #[.string s] w (PLRes s w) := by
  have htk := fun w => toks_any s w
  unfold TokRes at htk
  rcases ht : toksP s with c | l
  · rw [ht] at htk
    have hPL : parseL s = (c, none) := by unfold parseL; rw [ht]
    have hc : (c != 0) = true := by rcases toksP_code ht with rfl | rfl | rfl <;> rfl
    have HPL := Lib.hid hPL; clear hPL ht
    have HTK := Lib.hid htk; clear htk
    go_enter Tryz.func20, Tryz.ntmps20
    go_wp2_with fail
    (with_reducible refine (HTK.out _).mono ?_)
    rintro e w1 ⟨rfl, hb1⟩
    obtain ⟨p1, rfl⟩ := gw_of_below hb1
    clear hb1
    go_wp2_with fail
    refine bodyPost_ret (v := .tuple #[.pointer none, .int .i64 c]) (by simp [results, Tryz.results20, go_sem]) rfl ?_
    exact ⟨_, by rw [HPL.out], by rw [HPL.out]; rfl, by (repeat (first | exact Below.refl _ _ | refine Below.drew ?_ | (refine below_gw' ?_ (by first | omega | (simp [go_sem]; done) | (simp [go_sem]; omega)) _) | (refine Below.alloc ?_ (by first | omega | (simp [go_sem]; done) | (simp [go_sem]; omega)) _) | (refine Below.setCell ?_ (by first | omega | (simp [go_sem]; done) | (simp [go_sem]; omega)) _)))⟩
  · rw [ht] at htk
    have hok := toksP_ok ht
    have hPL : parseL s = parseR l.dropLast := by unfold parseL; rw [ht]
    have HPL := Lib.hid hPL; clear hPL ht
    have HTK := Lib.hid htk; clear htk
    have hl1 : (1 : Int) ≤ (l.length : Int) := by omega
    have hl2 : (l.length : Int) ≤ 1025 := by omega
    have hl0 : ((l.length : Int) == 0) = false := by rw [beq_eq_false_iff_ne]; omega
    have HOK := Lib.hid hok; clear hok
    go_enter Tryz.func20, Tryz.ntmps20
    go_wp2_with fail
    (with_reducible refine (HTK.out _).mono ?_)
    rintro e w1 ⟨v, rfl, hrow, hb1⟩
    obtain ⟨p1, rfl⟩ := gw_of_below hb1
    clear hb1
    obtain ⟨g, o, cap, rfl, hcap, hg, htk, hsub⟩ := hrow.tok2 (by rintro rfl; simp at hl1)
    have hrs := hsub 0 (l.length - 1) (some ⟨g, o, none⟩) cap (Nat.zero_le _) (by omega) (fun _ => by simp) (by omega)
    rw [dropLast_part, Nat.sub_zero] at hrs
    have hpa := fun w hr => parse_any l.dropLast (.slice (some ⟨g, o, none⟩) (l.length - 1) cap) w hr HOK.out.1.sub (by rw [List.length_dropLast]; omega)
    have HRS := Lib.hid hrs; clear hrs hsub htk hrow
    have HPA := Lib.hid hpa; clear hpa
    have hc1 : (l.length : Int) ≤ (cap : Int) := by omega
    go_wp2_with fail
    (with_reducible refine (HPA.out _ HRS.out).mono ?_)
    rintro e w2 ⟨vt, rfl, ho, hb2⟩
    have HO := Lib.hid ho; clear ho
    have HB : Hid (Below w.heap.size w w2) := Lib.hid (Below.trans (b := gw w p1) (by (repeat (first | exact Below.refl _ _ | refine Below.drew ?_ | (refine below_gw' ?_ (by first | omega | (simp [go_sem]; done) | (simp [go_sem]; omega)) _) | (refine Below.alloc ?_ (by first | omega | (simp [go_sem]; done) | (simp [go_sem]; omega)) _) | (refine Below.setCell ?_ (by first | omega | (simp [go_sem]; done) | (simp [go_sem]; omega)) _)))) (hb2.mono (by (first | omega | (simp [go_sem]; done) | (simp [go_sem]; omega))))); clear hb2
    go_wp2_with fail
    refine bodyPost_ret (v := .tuple #[vt, .int .i64 (parseR l.dropLast).1]) (by simp [results, Tryz.results20, go_sem]) rfl ?_
    exact ⟨_, by rw [HPL.out], by rw [HPL.out]; exact HO.out, HB.out⟩
def KnRes (s : ByteArray) (w : World) (e : Ending) (w' : World) : Prop := ∃ v, e = .returned (.tuple #[v, .bool (knownP s).isSome]) ∧ Row w' v ((knownP s).getD []).length (tokc ((knownP s).getD [])) ∧ Below w.heap.size w w'
set_option maxHeartbeats 1000000 in
set_option maxRecDepth 100000 in
theorem known_any (s : ByteArray) (w : World) (hs : s.size ≤ maxLen) : Calls Tryz.prog 9 #[.string s] w (KnRes s w) := by
  unfold maxLen at hs
  by_cases h2 : 200 < s.size
  · have hK : knownP s = none := by unfold knownP; rw [if_pos h2]
    have HK := Lib.hid hK; clear hK
    have h2' : (200 : Int) < (s.size : Int) := by omega
    go_enter Tryz.func9, Tryz.ntmps9
    go_wp2_with fail
    refine bodyPost_ret (v := .tuple #[.slice none 0 0, .bool false]) (by simp [results, Tryz.results9, go_sem]) rfl ?_
    exact ⟨_, by rw [HK.out]; rfl, by rw [HK.out]; exact Row.nil _, by (repeat (first | exact Below.refl _ _ | refine Below.drew ?_ | (refine below_gw' ?_ (by first | omega | (simp [go_sem]; done) | (simp [go_sem]; omega)) _) | (refine Below.alloc ?_ (by first | omega | (simp [go_sem]; done) | (simp [go_sem]; omega)) _) | (refine Below.setCell ?_ (by first | omega | (simp [go_sem]; done) | (simp [go_sem]; omega)) _)))⟩
  · have h2' : ¬ (200 : Int) < (s.size : Int) := by omega
    have htk := fun w => toks16_any s w
    unfold TokRes at htk
    rcases ht : toksP s with c | l
    · rw [ht] at htk
      have hK : knownP s = none := by unfold knownP; rw [if_neg h2, ht]
      have hc : (c != 0) = true := by rcases toksP_code ht with rfl | rfl | rfl <;> rfl
      have HK := Lib.hid hK; clear hK ht
      have HTK := Lib.hid htk; clear htk
      go_enter Tryz.func9, Tryz.ntmps9
      go_wp2_with fail
      (with_reducible refine (HTK.out _).mono ?_)
      rintro e w1 ⟨rfl, hb1⟩
      obtain ⟨p1, rfl⟩ := gw_of_below hb1
      clear hb1
      go_wp2_with fail
      refine bodyPost_ret (v := .tuple #[.slice none 0 0, .bool false]) (by simp [results, Tryz.results9, go_sem]) rfl ?_
      exact ⟨_, by rw [HK.out]; rfl, by rw [HK.out]; exact Row.nil _, by (repeat (first | exact Below.refl _ _ | refine Below.drew ?_ | (refine below_gw' ?_ (by first | omega | (simp [go_sem]; done) | (simp [go_sem]; omega)) _) | (refine Below.alloc ?_ (by first | omega | (simp [go_sem]; done) | (simp [go_sem]; omega)) _) | (refine Below.setCell ?_ (by first | omega | (simp [go_sem]; done) | (simp [go_sem]; omega)) _)))⟩
    · rw [ht] at htk
      have hok := toksP_ok ht
      have hK : knownP s = some l.dropLast := by unfold knownP; rw [if_neg h2, ht]
      have HK := Lib.hid hK; clear hK ht
      have HTK := Lib.hid htk; clear htk
      have hl1 : (1 : Int) ≤ (l.length : Int) := by omega
      have hl2 : (l.length : Int) ≤ 1025 := by omega
      go_enter Tryz.func9, Tryz.ntmps9
      go_wp2_with fail
      (with_reducible refine (HTK.out _).mono ?_)
      rintro e w1 ⟨v, rfl, hrow, hb1⟩
      obtain ⟨p1, rfl⟩ := gw_of_below hb1
      clear hb1
      obtain ⟨g, o, cap, rfl, hcap, hg, htk, hsub⟩ := hrow.tok2 (by rintro rfl; simp at hl1)
      have hrs := hsub 0 (l.length - 1) (some ⟨g, o, none⟩) cap (Nat.zero_le _) (by omega) (fun _ => by simp) (by omega)
      rw [dropLast_part, Nat.sub_zero] at hrs
      have HRS := Lib.hid hrs; clear hrs hsub htk hrow
      have hc1 : (l.length : Int) ≤ (cap : Int) := by omega
      go_wp2_with fail
      refine bodyPost_ret (v := .tuple #[.slice (some ⟨g, o, none⟩) (l.length - 1) cap, .bool true]) (by simp [results, Tryz.results9, go_sem]) rfl ?_
      exact ⟨_, by rw [HK.out]; rfl, by rw [HK.out]; exact HRS.out, by (repeat (first | exact Below.refl _ _ | refine Below.drew ?_ | (refine below_gw' ?_ (by first | omega | (simp [go_sem]; done) | (simp [go_sem]; omega)) _) | (refine Below.alloc ?_ (by first | omega | (simp [go_sem]; done) | (simp [go_sem]; omega)) _) | (refine Below.setCell ?_ (by first | omega | (simp [go_sem]; done) | (simp [go_sem]; omega)) _)))⟩
end Go.Proofs.YtpkbonfbehhbdaaGreatDoor

/- The law's own function alive. -/
namespace Go.Proofs.YtpkbonfbehhbdaaGreatDoor
open Go.RowKit Go.Sort

theorem lparse_ok (s : ByteArray) (x : Ex) (h : parseL s = (0, some x)) (w : World) : Calls Tryz.prog 20 #[.string s] w fun e w' => ∃ g, e = .returned (.tuple #[.pointer (some ⟨g, 0, none⟩), .int .i64 0]) ∧ NodeAt 80 0 w' x (.pointer (some ⟨g, 0, none⟩)) ∧ Below w.heap.size w w' := by
  refine (lparse_any s w).mono ?_
  rintro e w' ⟨vt, he, ho, hb⟩
  rw [h] at he ho
  obtain ⟨g, rfl, _⟩ := NodeAt.ptr ho
  exact ⟨g, he, ho, hb⟩
set_option maxHeartbeats 1000000 in
set_option maxRecDepth 100000 in
theorem alive17 (w : World) (hT : Tabs w) : Calls Tryz.prog 10 #[] w fun e w' => e = .returned (.bool true) ∧ Below w.heap.size w w' := by
  have hpa : ∀ w, Calls Tryz.prog 20 #[.string ⟨#[50, 32, 43, 32, 51, 32, 42, 32, 52, 32, 77, 79, 68, 32, 53]⟩] w fun e w' => ∃ g, e = .returned (.tuple #[.pointer (some ⟨g, 0, none⟩), .int .i64 0]) ∧ NodeAt 80 0 w' aEx (.pointer (some ⟨g, 0, none⟩)) ∧ Below w.heap.size w w' := fun w => lparse_ok aLine aEx a_parse w
  have hpb : ∀ w, Calls Tryz.prog 20 #[.string ⟨#[40, 40, 49, 41, 41, 32, 45, 32, 40, 50, 32, 45, 32, 120, 41]⟩] w fun e w' => ∃ g, e = .returned (.tuple #[.pointer (some ⟨g, 0, none⟩), .int .i64 0]) ∧ NodeAt 80 0 w' bEx (.pointer (some ⟨g, 0, none⟩)) ∧ Below w.heap.size w w' := fun w => lparse_ok bLine bEx b_parse w
  have hev : ∀ v w, NodeAt 80 0 w aEx v → Calls Tryz.prog 17 #[v, .int .i64 0, .map none] w fun e w' => e = .returned (.tuple #[.int .i64 4, .int .i64 0]) ∧ Below w.heap.size w w' := fun v w hn => by
    have h := eval_any (fun _ => none) 0 (fun s n h => by cases h) (by decide) (.map none) aEx a_good v w hn (.inl ⟨rfl, fun _ => rfl⟩)
    rw [a_eval] at h
    exact h
  have htx : ∀ v w, NodeAt 80 0 w bEx v → Tabs w → Calls Tryz.prog 22 #[v] w fun e w' => e = .returned (.string ⟨#[49, 32, 45, 32, 40, 50, 32, 45, 32, 120, 41]⟩) ∧ Below w.heap.size w w' := fun v w hn hT => by
    have h := textE_any bEx b_good b_nodes v w hn hT
    rw [b_text] at h
    exact h
  have HPA := Lib.hid hpa; clear hpa
  have HPB := Lib.hid hpb; clear hpb
  have HEV := Lib.hid hev; clear hev
  have HTX := Lib.hid htx; clear htx
  have HT := Lib.hid hT; clear hT
  go_enter Tryz.func10, Tryz.ntmps10
  go_wp2_with fail
  (with_reducible refine (HPA.out _).mono ?_)
  rintro e w1 ⟨g, rfl, hn, hb1⟩
  obtain ⟨p1, rfl⟩ := gw_of_below hb1
  clear hb1
  have HN := Lib.hid hn; clear hn
  go_wp2_with fail
  (with_reducible refine (HEV.out _ _ HN.out).mono ?_)
  rintro e w2 ⟨rfl, hb2⟩
  obtain ⟨p2, rfl⟩ := gw_of_below hb2
  clear hb2
  go_wp2_with fail
  (with_reducible refine (HPB.out _).mono ?_)
  rintro e w3 ⟨g', rfl, hn', hb3⟩
  obtain ⟨p3, rfl⟩ := gw_of_below hb3
  clear hb3
  have HN' := Lib.hid hn'; clear hn'
  go_wp2_with fail
  (with_reducible refine (HTX.out _ _ HN'.out (HT.out.below (by (repeat (first | exact Below.refl _ _ | refine Below.drew ?_ | (refine below_gw' ?_ (by first | omega | (simp [go_sem]; done) | (simp [go_sem]; omega)) _) | (refine Below.alloc ?_ (by first | omega | (simp [go_sem]; done) | (simp [go_sem]; omega)) _) | (refine Below.setCell ?_ (by first | omega | (simp [go_sem]; done) | (simp [go_sem]; omega)) _)))))).mono ?_)
  rintro e w4 ⟨rfl, hb4⟩
  obtain ⟨p4, rfl⟩ := gw_of_below hb4
  clear hb4
  go_wp2_with fail
  go_ret
  exact ⟨rfl, by (repeat (first | exact Below.refl _ _ | refine Below.drew ?_ | (refine below_gw' ?_ (by first | omega | (simp [go_sem]; done) | (simp [go_sem]; omega)) _) | (refine Below.alloc ?_ (by first | omega | (simp [go_sem]; done) | (simp [go_sem]; omega)) _) | (refine Below.setCell ?_ (by first | omega | (simp [go_sem]; done) | (simp [go_sem]; omega)) _)))⟩
end Go.Proofs.YtpkbonfbehhbdaaGreatDoor
