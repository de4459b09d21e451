/- Joined texts: Closed17. -/
import Derived.Test.YtpkbonfbehhbdaaGreatDoorE25
/- The reference's closed. (Written by wip/gen_closed17.py.) -/
namespace Go.Proofs.YtpkbonfbehhbdaaGreatDoor
open Go.RowKit Go.Sort

theorem cls_one (d : Int) (t : Tok) : cls exLang d [t] = decide (d + dl exLang t = 0) := rfl
theorem cls_cons (d : Int) (t t' : Tok) (l : List Tok) : cls exLang d (t :: t' :: l) = if d + dl exLang t ≤ 0 then false else cls exLang (d + dl exLang t) (t' :: l) := rfl
theorem cls_nil (d : Int) : cls exLang d [] = decide (d = 0) := rfl

set_option maxHeartbeats 8000000 in
set_option maxRecDepth 100000 in
theorem closed17_any (l : List Tok) (v : Value) (w : World) (hr : Row w v l.length (tokc l)) (hs : ∀ t ∈ l, t.text.size ≤ 1000000) (hl : l.length ≤ 1000000) :
    Calls Tryz.prog 58 #[v] w fun e w' => e = .returned (.bool (cls exLang 0 l)) ∧ Below w.heap.size w w' := by
  obtain ⟨R, hR⟩ : ∃ R, cls exLang 0 l = R := ⟨_, rfl⟩
  rw [hR]
  obtain ⟨a, cap, rfl, hcap, hcs⟩ := hr.tok
  have HR := Lib.hid hR; clear hR hr
  have HCS := Lib.hid hcs; clear hcs
  go_enter Tryz.func58, Tryz.ntmps58
  go_wp2_with fail
  go_loopw [3, 4] (fun dp i wr => ∃ (k : Nat) (d : Int), k ≤ l.length ∧ -(k : Int) ≤ d ∧ d ≤ (k : Int) ∧ dp = .int .i64 d ∧ i = .int .i64 k ∧ Below w.heap.size w wr ∧ Hid (cls exLang d (l.drop k) = R)) (fun _ i _ => l.length - (intOf i).toNat)
  case atStart => exact ⟨0, 0, Nat.zero_le _, by omega, by omega, rfl, rfl, Below.refl _ _, HR⟩
  case round =>
    obtain ⟨k, d, hk, hd1, hd2, rfl, rfl, hbel, HK⟩ := hrel
    obtain ⟨p, rfl⟩ := gw_of_below hbel
    clear hbel HR
    by_cases hlt : k < l.length
    · have hk0 : (0 : Int) ≤ (k : Int) := by omega
      have hk1 : (k : Int) < (l.length : Int) := by omega
      obtain ⟨t, ht⟩ : ∃ t, l[k]? = some t := ⟨l[k], by simp [hlt]⟩
      obtain ⟨g, o, rfl, hg, hcell⟩ := HCS.out (by intro h; rw [h] at hlt; simp at hlt)
      obtain ⟨c0, c1, c2, c3⟩ := hcell k t ht
      have hm : t ∈ l := List.mem_of_getElem? ht
      have hnm := fun w => rtname_any t w (hs t hm)
      have hsc := HK.out
      rw [drop_get l k t ht] at hsc
      have hdl := dl_val t
      obtain ⟨N, hN⟩ : ∃ N, tnm t = N := ⟨_, rfl⟩
      rw [hN] at hdl
      simp only [hN] at hnm
      have HNM := Lib.hid hnm; clear hnm hm hN HK hcell
      have hgp : g < w.heap.size + p.os.size := by omega
      have hcase : (k + 1 = l.length ∧ decide (d + dl exLang t = 0) = R ∧ l.drop (k + 1) = []) ∨ (k + 1 < l.length ∧ (if d + dl exLang t ≤ 0 then false else cls exLang (d + dl exLang t) (l.drop (k + 1))) = R) := by
        rcases Nat.lt_or_ge (k + 1) l.length with h | h
        · right
          refine ⟨h, ?_⟩
          rw [drop_get l (k + 1) l[k + 1] (by simp [h])] at hsc ⊢
          rw [cls_cons] at hsc
          exact hsc
        · left
          have h2 : l.drop (k + 1) = [] := List.drop_of_length_le h
          rw [h2, cls_one] at hsc
          exact ⟨by omega, hsc, h2⟩
      clear hsc ht
      by_cases h40 : N.toList = [40]
      · rw [if_pos h40] at hdl
        rw [hdl] at hcase
        have n41 : (N.toList == [41]) = false := by rw [h40]; rfl
        have n40 : (N.toList == [40]) = true := by rw [h40]; rfl
        clear h40 hdl
        rcases hcase with ⟨hlast, hres, hnil⟩ | ⟨hmore, hres⟩
        · have hke : ¬ (k : Int) < (l.length : Int) - 1 := by omega
          have hsc : cls exLang (d + 1) (l.drop (k + 1)) = R := by rw [hnil, cls_nil]; exact hres
          have HSC := Lib.hid hsc; clear hsc hres hnil hlast
          go_wp2_with fail
          refine (HNM.out _).mono ?_
          rintro e w1 ⟨rfl, hb⟩
          obtain ⟨p1, rfl⟩ := gw_of_below hb
          clear hb
          have hgp1 : g < w.heap.size + p.os.size + p1.os.size := by omega
          go_wp2_with fail
          refine (HNM.out _).mono ?_
          rintro e w1 ⟨rfl, hb⟩
          obtain ⟨p2, rfl⟩ := gw_of_below hb
          clear hb
          go_wp2_with fail
          all_goals
            go_roundw
            case rel => exact ⟨k + 1, (d + 1), by omega, by omega, by omega, rfl, by go_num, by (repeat (first | exact Below.refl _ _ | refine Below.drew ?_ | (refine below_gw' ?_ (by first | omega | (simp [go_sem]; done) | (simp [go_sem]; omega)) _) | (refine Below.alloc ?_ (by first | omega | (simp [go_sem]; done) | (simp [go_sem]; omega)) _) | (refine Below.setCell ?_ (by first | omega | (simp [go_sem]; done) | (simp [go_sem]; omega)) _))), HSC⟩
            case measure => simp [intOf]; omega
        · have hke : (k : Int) < (l.length : Int) - 1 := by omega
          by_cases hd0 : (d + 1) ≤ 0
          · rw [if_pos hd0] at hres
            subst hres
            go_wp2_with fail
            refine (HNM.out _).mono ?_
            rintro e w1 ⟨rfl, hb⟩
            obtain ⟨p1, rfl⟩ := gw_of_below hb
            clear hb
            have hgp1 : g < w.heap.size + p.os.size + p1.os.size := by omega
            go_wp2_with fail
            refine (HNM.out _).mono ?_
            rintro e w1 ⟨rfl, hb⟩
            obtain ⟨p2, rfl⟩ := gw_of_below hb
            clear hb
            go_wp2_with fail
            go_ret
            exact ⟨rfl, by (repeat (first | exact Below.refl _ _ | refine Below.drew ?_ | (refine below_gw' ?_ (by first | omega | (simp [go_sem]; done) | (simp [go_sem]; omega)) _) | (refine Below.alloc ?_ (by first | omega | (simp [go_sem]; done) | (simp [go_sem]; omega)) _) | (refine Below.setCell ?_ (by first | omega | (simp [go_sem]; done) | (simp [go_sem]; omega)) _)))⟩
          · rw [if_neg hd0] at hres
            have HSC := Lib.hid hres; clear hres
            go_wp2_with fail
            refine (HNM.out _).mono ?_
            rintro e w1 ⟨rfl, hb⟩
            obtain ⟨p1, rfl⟩ := gw_of_below hb
            clear hb
            have hgp1 : g < w.heap.size + p.os.size + p1.os.size := by omega
            go_wp2_with fail
            refine (HNM.out _).mono ?_
            rintro e w1 ⟨rfl, hb⟩
            obtain ⟨p2, rfl⟩ := gw_of_below hb
            clear hb
            go_wp2_with fail
            go_roundw
            case rel => exact ⟨k + 1, (d + 1), by omega, by omega, by omega, rfl, by go_num, by (repeat (first | exact Below.refl _ _ | refine Below.drew ?_ | (refine below_gw' ?_ (by first | omega | (simp [go_sem]; done) | (simp [go_sem]; omega)) _) | (refine Below.alloc ?_ (by first | omega | (simp [go_sem]; done) | (simp [go_sem]; omega)) _) | (refine Below.setCell ?_ (by first | omega | (simp [go_sem]; done) | (simp [go_sem]; omega)) _))), HSC⟩
            case measure => simp [intOf]; omega
      have n40 : (N.toList == [40]) = false := by simpa using h40
      rw [if_neg h40] at hdl
      clear h40
      by_cases h41 : N.toList = [41]
      · rw [if_pos h41] at hdl
        rw [hdl, show d + -1 = d - 1 by omega] at hcase
        have n41 : (N.toList == [41]) = true := by rw [h41]; rfl
        clear h41 hdl
        rcases hcase with ⟨hlast, hres, hnil⟩ | ⟨hmore, hres⟩
        · have hke : ¬ (k : Int) < (l.length : Int) - 1 := by omega
          have hsc : cls exLang (d - 1) (l.drop (k + 1)) = R := by rw [hnil, cls_nil]; exact hres
          have HSC := Lib.hid hsc; clear hsc hres hnil hlast
          go_wp2_with fail
          refine (HNM.out _).mono ?_
          rintro e w1 ⟨rfl, hb⟩
          obtain ⟨p1, rfl⟩ := gw_of_below hb
          clear hb
          have hgp1 : g < w.heap.size + p.os.size + p1.os.size := by omega
          go_wp2_with fail
          refine (HNM.out _).mono ?_
          rintro e w1 ⟨rfl, hb⟩
          obtain ⟨p2, rfl⟩ := gw_of_below hb
          clear hb
          go_wp2_with fail
          all_goals
            go_roundw
            case rel => exact ⟨k + 1, (d - 1), by omega, by omega, by omega, rfl, by go_num, by (repeat (first | exact Below.refl _ _ | refine Below.drew ?_ | (refine below_gw' ?_ (by first | omega | (simp [go_sem]; done) | (simp [go_sem]; omega)) _) | (refine Below.alloc ?_ (by first | omega | (simp [go_sem]; done) | (simp [go_sem]; omega)) _) | (refine Below.setCell ?_ (by first | omega | (simp [go_sem]; done) | (simp [go_sem]; omega)) _))), HSC⟩
            case measure => simp [intOf]; omega
        · have hke : (k : Int) < (l.length : Int) - 1 := by omega
          by_cases hd0 : (d - 1) ≤ 0
          · rw [if_pos hd0] at hres
            subst hres
            go_wp2_with fail
            refine (HNM.out _).mono ?_
            rintro e w1 ⟨rfl, hb⟩
            obtain ⟨p1, rfl⟩ := gw_of_below hb
            clear hb
            have hgp1 : g < w.heap.size + p.os.size + p1.os.size := by omega
            go_wp2_with fail
            refine (HNM.out _).mono ?_
            rintro e w1 ⟨rfl, hb⟩
            obtain ⟨p2, rfl⟩ := gw_of_below hb
            clear hb
            go_wp2_with fail
            go_ret
            exact ⟨rfl, by (repeat (first | exact Below.refl _ _ | refine Below.drew ?_ | (refine below_gw' ?_ (by first | omega | (simp [go_sem]; done) | (simp [go_sem]; omega)) _) | (refine Below.alloc ?_ (by first | omega | (simp [go_sem]; done) | (simp [go_sem]; omega)) _) | (refine Below.setCell ?_ (by first | omega | (simp [go_sem]; done) | (simp [go_sem]; omega)) _)))⟩
          · rw [if_neg hd0] at hres
            have HSC := Lib.hid hres; clear hres
            go_wp2_with fail
            refine (HNM.out _).mono ?_
            rintro e w1 ⟨rfl, hb⟩
            obtain ⟨p1, rfl⟩ := gw_of_below hb
            clear hb
            have hgp1 : g < w.heap.size + p.os.size + p1.os.size := by omega
            go_wp2_with fail
            refine (HNM.out _).mono ?_
            rintro e w1 ⟨rfl, hb⟩
            obtain ⟨p2, rfl⟩ := gw_of_below hb
            clear hb
            go_wp2_with fail
            go_roundw
            case rel => exact ⟨k + 1, (d - 1), by omega, by omega, by omega, rfl, by go_num, by (repeat (first | exact Below.refl _ _ | refine Below.drew ?_ | (refine below_gw' ?_ (by first | omega | (simp [go_sem]; done) | (simp [go_sem]; omega)) _) | (refine Below.alloc ?_ (by first | omega | (simp [go_sem]; done) | (simp [go_sem]; omega)) _) | (refine Below.setCell ?_ (by first | omega | (simp [go_sem]; done) | (simp [go_sem]; omega)) _))), HSC⟩
            case measure => simp [intOf]; omega
      · rw [if_neg h41] at hdl
        rw [hdl, show d + 0 = d by omega] at hcase
        have n41 : (N.toList == [41]) = false := by simpa using h41
        clear h41 hdl
        rcases hcase with ⟨hlast, hres, hnil⟩ | ⟨hmore, hres⟩
        · have hke : ¬ (k : Int) < (l.length : Int) - 1 := by omega
          have hsc : cls exLang d (l.drop (k + 1)) = R := by rw [hnil, cls_nil]; exact hres
          have HSC := Lib.hid hsc; clear hsc hres hnil hlast
          go_wp2_with fail
          refine (HNM.out _).mono ?_
          rintro e w1 ⟨rfl, hb⟩
          obtain ⟨p1, rfl⟩ := gw_of_below hb
          clear hb
          have hgp1 : g < w.heap.size + p.os.size + p1.os.size := by omega
          go_wp2_with fail
          refine (HNM.out _).mono ?_
          rintro e w1 ⟨rfl, hb⟩
          obtain ⟨p2, rfl⟩ := gw_of_below hb
          clear hb
          go_wp2_with fail
          all_goals
            go_roundw
            case rel => exact ⟨k + 1, d, by omega, by omega, by omega, rfl, by go_num, by (repeat (first | exact Below.refl _ _ | refine Below.drew ?_ | (refine below_gw' ?_ (by first | omega | (simp [go_sem]; done) | (simp [go_sem]; omega)) _) | (refine Below.alloc ?_ (by first | omega | (simp [go_sem]; done) | (simp [go_sem]; omega)) _) | (refine Below.setCell ?_ (by first | omega | (simp [go_sem]; done) | (simp [go_sem]; omega)) _))), HSC⟩
            case measure => simp [intOf]; omega
        · have hke : (k : Int) < (l.length : Int) - 1 := by omega
          by_cases hd0 : d ≤ 0
          · rw [if_pos hd0] at hres
            subst hres
            go_wp2_with fail
            refine (HNM.out _).mono ?_
            rintro e w1 ⟨rfl, hb⟩
            obtain ⟨p1, rfl⟩ := gw_of_below hb
            clear hb
            have hgp1 : g < w.heap.size + p.os.size + p1.os.size := by omega
            go_wp2_with fail
            refine (HNM.out _).mono ?_
            rintro e w1 ⟨rfl, hb⟩
            obtain ⟨p2, rfl⟩ := gw_of_below hb
            clear hb
            go_wp2_with fail
            go_ret
            exact ⟨rfl, by (repeat (first | exact Below.refl _ _ | refine Below.drew ?_ | (refine below_gw' ?_ (by first | omega | (simp [go_sem]; done) | (simp [go_sem]; omega)) _) | (refine Below.alloc ?_ (by first | omega | (simp [go_sem]; done) | (simp [go_sem]; omega)) _) | (refine Below.setCell ?_ (by first | omega | (simp [go_sem]; done) | (simp [go_sem]; omega)) _)))⟩
          · rw [if_neg hd0] at hres
            have HSC := Lib.hid hres; clear hres
            go_wp2_with fail
            refine (HNM.out _).mono ?_
            rintro e w1 ⟨rfl, hb⟩
            obtain ⟨p1, rfl⟩ := gw_of_below hb
            clear hb
            have hgp1 : g < w.heap.size + p.os.size + p1.os.size := by omega
            go_wp2_with fail
            refine (HNM.out _).mono ?_
            rintro e w1 ⟨rfl, hb⟩
            obtain ⟨p2, rfl⟩ := gw_of_below hb
            clear hb
            go_wp2_with fail
            go_roundw
            case rel => exact ⟨k + 1, d, by omega, by omega, by omega, rfl, by go_num, by (repeat (first | exact Below.refl _ _ | refine Below.drew ?_ | (refine below_gw' ?_ (by first | omega | (simp [go_sem]; done) | (simp [go_sem]; omega)) _) | (refine Below.alloc ?_ (by first | omega | (simp [go_sem]; done) | (simp [go_sem]; omega)) _) | (refine Below.setCell ?_ (by first | omega | (simp [go_sem]; done) | (simp [go_sem]; omega)) _))), HSC⟩
            case measure => simp [intOf]; omega
    · obtain rfl : k = l.length := by omega
      have hsc := HK.out
      rw [List.drop_of_length_le (Nat.le_refl _), cls_nil] at hsc
      have HSC := Lib.hid hsc; clear hsc HK
      go_wp2_with fail
      go_ret
      refine ⟨?_, by (repeat (first | exact Below.refl _ _ | refine Below.drew ?_ | (refine below_gw' ?_ (by first | omega | (simp [go_sem]; done) | (simp [go_sem]; omega)) _) | (refine Below.alloc ?_ (by first | omega | (simp [go_sem]; done) | (simp [go_sem]; omega)) _) | (refine Below.setCell ?_ (by first | omega | (simp [go_sem]; done) | (simp [go_sem]; omega)) _)))⟩
      rw [← HSC.out]
      congr 2
end Go.Proofs.YtpkbonfbehhbdaaGreatDoor
