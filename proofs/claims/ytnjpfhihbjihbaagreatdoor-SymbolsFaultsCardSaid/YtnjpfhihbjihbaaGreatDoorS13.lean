/- Joined texts: Lev17, Place17. -/
import Derived.Test.YtnjpfhihbjihbaaGreatDoorS03
import Derived.Test.YtnjpfhihbjihbaaGreatDoorS05
import Derived.Test.YtnjpfhihbjihbaaGreatDoorS12
/- The reference's Level of an operator. -/
namespace Go.Proofs.YtnjpfhihbjihbaaGreatDoor
open Go.RowKit Go.Sort

set_option maxHeartbeats 400000 in
set_option maxRecDepth 100000 in
theorem rlevel_any (s : ByteArray) (w : World) :
    Calls Tryz.prog 138 #[.string s] w fun e w' => e = .returned (.int .i64 (lvlS s : Nat)) ∧ w = w' := by
  obtain ⟨R, hR⟩ : ∃ R, lvlS s = R := ⟨_, rfl⟩
  rw [hR]
  have HR := Lib.hid hR; clear hR
  go_enter Tryz.func138, Tryz.ntmps138
  go_wp2_with fail
  all_goals
    go_ret
    refine ⟨?_, rfl⟩
    have h := HR.out
    clear HR
    try simp only [beq_iff_eq, beq_eq_false_iff_ne, ne_eq] at *
    first
      | (rw [lvlS, show s.toList = [124] from by assumption] at h; subst h; rfl)
      | (rw [lvlS, show s.toList = [94] from by assumption] at h; subst h; rfl)
      | (rw [lvlS, show s.toList = [38] from by assumption] at h; subst h; rfl)
      | (rw [lvlS, show s.toList = [60, 60] from by assumption] at h; subst h; rfl)
      | (rw [lvlS, show s.toList = [62, 62] from by assumption] at h; subst h; rfl)
      | (rw [lvlS, show s.toList = [43] from by assumption] at h; subst h; rfl)
      | (rw [lvlS, show s.toList = [45] from by assumption] at h; subst h; rfl)
      | (rw [lvlS, show s.toList = [42] from by assumption] at h; subst h; rfl)
      | (rw [lvlS, show s.toList = [47] from by assumption] at h; subst h; rfl)
      | (rw [lvlS, show s.toList = [77, 79, 68] from by assumption] at h; subst h; rfl)
      | (rw [lvlS, lvlL, if_neg (by assumption), if_neg (by assumption), if_neg (by assumption), if_neg (by rintro (h | h) <;> simp_all), if_neg (by rintro (h | h) <;> simp_all), if_neg (by rintro (h | h | h) <;> simp_all)] at h; subst h; rfl)
end Go.Proofs.YtnjpfhihbjihbaaGreatDoor

/- The reference's place and closed. (Written by wip/gen_place17.py.) -/
namespace Go.Proofs.YtnjpfhihbjihbaaGreatDoor
open Go.RowKit Go.Sort

/-- A place as a number. -/
def bI (o : Option Nat) : Int := match o with | some i => i | none => -1
def prevEnds (l : List Tok) (k : Nat) : Bool := match k with | 0 => false | k + 1 => match l[k]? with | some t => tends t | none => false
theorem scan_cons (pe : Bool) (d : Int) (i : Nat) (best : Option Nat) (lev : Nat) (t : Tok) (l : List Tok) : scan exLang pe d i best lev (t :: l) = if pe = true ∧ d + dl exLang t = 0 ∧ exLang.lvl t ≠ 0 ∧ exLang.lvl t ≤ lev then scan exLang (exLang.ends t) (d + dl exLang t) (i + 1) (some i) (exLang.lvl t) l else scan exLang (exLang.ends t) (d + dl exLang t) (i + 1) best lev l := rfl
theorem dl_val (t : Tok) : dl exLang t = (if (tnm t).toList = [40] then 1 else if (tnm t).toList = [41] then -1 else 0) := by
  unfold dl
  show (if tL t = true then (1 : Int) else 0) - (if tR t = true then 1 else 0) = _
  unfold tL tR
  by_cases h1 : (tnm t).toList = [40]
  · simp [h1]
  · by_cases h2 : (tnm t).toList = [41]
    · simp [h2]
    · simp [h1, h2]
theorem drop_get {α : Type} (l : List α) (k : Nat) (x : α) (h : l[k]? = some x) : l.drop k = x :: l.drop (k + 1) := by
  obtain ⟨hk, he⟩ := List.getElem?_eq_some_iff.1 h
  rw [List.drop_eq_getElem_cons hk, he]

set_option maxHeartbeats 8000000 in
set_option maxRecDepth 100000 in
theorem place17_any (l : List Tok) (v : Value) (w : World) (hr : Row w v l.length (tokc l)) (hs : ∀ t ∈ l, t.text.size ≤ 1000000) (hl : l.length ≤ 1000000) :
    Calls Tryz.prog 97 #[v] w fun e w' => e = .returned (.int .i64 (bI (place exLang l))) ∧ Below w.heap.size w w' := by
  obtain ⟨R, hR⟩ : ∃ R, place exLang l = R := ⟨_, rfl⟩
  rw [hR]
  unfold place at hR
  obtain ⟨a, cap, rfl, hcap, hcs⟩ := hr.tok
  have HR := Lib.hid hR; clear hR hr
  have HCS := Lib.hid hcs; clear hcs
  go_enter Tryz.func97, Tryz.ntmps97
  go_wp2_with fail
  go_loopw [3, 4, 5, 6, 7] (fun b lv dp i _ wr => ∃ (k : Nat) (best : Option Nat) (lev : Nat) (d : Int), k ≤ l.length ∧ lev ≤ 99 ∧ -(k : Int) ≤ d ∧ d ≤ (k : Int) ∧ b = .int .i64 (bI best) ∧ lv = .int .i64 lev ∧ dp = .int .i64 d ∧ i = .int .i64 k ∧ Below w.heap.size w wr ∧ Hid (scan exLang (prevEnds l k) d k best lev (l.drop k) = R)) (fun _ _ _ i _ _ => l.length - (intOf i).toNat)
  case atStart => exact ⟨0, none, 99, 0, Nat.zero_le _, Nat.le_refl _, by omega, by omega, rfl, rfl, rfl, rfl, Below.refl _ _, HR⟩
  case round =>
    obtain ⟨k, best, lev, d, hk, hlev, hd1, hd2, rfl, rfl, rfl, rfl, hbel, HK⟩ := hrel
    obtain ⟨p, rfl⟩ := gw_of_below hbel
    clear hbel HR
    by_cases hlt : k < l.length
    · have hk0 : (0 : Int) ≤ (k : Int) := by omega
      have hk1 : (k : Int) < (l.length : Int) := by omega
      obtain ⟨t, ht⟩ : ∃ t, l[k]? = some t := ⟨l[k], by simp [hlt]⟩
      obtain ⟨g, o, rfl, hg, hcell⟩ := HCS.out (by intro h; rw [h] at hlt; simp at hlt)
      obtain ⟨c0, c1, c2, c3⟩ := hcell k t ht
      have hm : t ∈ l := List.mem_of_getElem? ht
      have hnm := fun w => rtname_any t w (hs t hm)
      have hsc := HK.out
      rw [drop_get l k t ht, scan_cons, dl_val] at hsc
      rw [show exLang.ends t = prevEnds l (k + 1) from by unfold prevEnds; simp only; rw [ht]; rfl] at hsc
      obtain ⟨N, hN⟩ : ∃ N, tnm t = N := ⟨_, rfl⟩
      rw [show exLang.lvl t = lvlS N from by show lvlS (tnm t) = _; rw [hN]] at hsc
      simp only [hN] at hnm hsc
      have hlv := fun w => rlevel_any N w
      obtain ⟨L, hL⟩ : ∃ L, lvlS N = L := ⟨_, rfl⟩
      have hL6 : L ≤ 6 := by rw [← hL]; exact lvlL_le _
      rw [hL] at hsc
      simp only [hL] at hlv
      have HLV := Lib.hid hlv; clear hlv hL
      have HNM := Lib.hid hnm; clear hnm hm hN HK
      have hpv : ∀ k', k = k' + 1 → ∃ t', l[k']? = some t' ∧ prevEnds l k = tends t' ∧ t' ∈ l := fun k' h => by
        subst h
        have hk' : k' < l.length := by omega
        refine ⟨l[k'], by simp [hk'], ?_, List.getElem_mem hk'⟩
        unfold prevEnds
        simp only [List.getElem?_eq_getElem hk']
      obtain ⟨pe, hpe⟩ : ∃ pe, prevEnds l k = pe := ⟨_, rfl⟩
      rw [hpe] at hsc
      have hprev : ∀ k', k = k' + 1 → ∃ t' : Tok, (w.cell? ⟨g, o + k' * 4, none⟩ = some (.int .i64 t'.kind) ∧ w.cell? ⟨g, o + k' * 4 + 1, none⟩ = some (.string t'.text) ∧ w.cell? ⟨g, o + k' * 4 + 2, none⟩ = some (.int .i64 t'.n) ∧ w.cell? ⟨g, o + k' * 4 + 3, none⟩ = some (.int .i64 t'.off)) ∧
          ∀ w, Calls Tryz.prog 139 #[.agg #[.int .i64 t'.kind, .string t'.text, .int .i64 t'.n, .int .i64 t'.off]] w fun e w' => e = .returned (.bool pe) ∧ Below w.heap.size w w' := fun k' h => by
        obtain ⟨t', h1, h2, h3⟩ := hpv k' h
        refine ⟨t', hcell k' t' h1, fun w => ?_⟩
        rw [← hpe, h2]
        exact rtends_any t' w (hs t' h3)
      clear hpv hcell
      have hpe0 : k = 0 → pe = false := fun h => by subst h; rw [← hpe]; rfl
      clear hpe ht
      have HPREV := Lib.hid hprev; clear hprev
      have hgp : g < w.heap.size + p.os.size := by omega
      by_cases h40 : N.toList = [40]
      · rw [if_pos h40] at hsc
        have n41 : (N.toList == [41]) = false := by rw [h40]; rfl
        have n40 : (N.toList == [40]) = true := by rw [h40]; rfl
        clear h40
        by_cases hk00 : k = 0
        · have hpf := hpe0 hk00
          subst hpf
          rw [if_neg (by simp)] at hsc
          have HSC := Lib.hid hsc; clear hsc
          have hk2 : ¬ (0 : Int) < (k : Int) := by omega
          clear hpe0 HPREV hk00
          go_wp2_with fail
          refine (HNM.out _).mono ?_
          rintro e w1 ⟨rfl, hb⟩
          obtain ⟨p1, rfl⟩ := gw_of_below hb
          clear hb
          have hgp1 : g < w.heap.size + p.os.size + p1.os.size := by omega
          go_wp2_with fail
          go_roundw
          case rel => exact ⟨k + 1, best, lev, (d + 1), by omega, by omega, by omega, by omega, rfl, rfl, rfl, by go_num, by (repeat (first | exact Below.refl _ _ | refine Below.drew ?_ | (refine below_gw' ?_ (by first | omega | (simp [go_sem]; done) | (simp [go_sem]; omega)) _) | (refine Below.alloc ?_ (by first | omega | (simp [go_sem]; done) | (simp [go_sem]; omega)) _) | (refine Below.setCell ?_ (by first | omega | (simp [go_sem]; done) | (simp [go_sem]; omega)) _))), HSC⟩
          case measure => simp [intOf]; omega
        have hk2 : (0 : Int) < (k : Int) := by omega
        clear hpe0
        by_cases hd0 : (d + 1) = 0
        · have hd1' : (((d + 1) : Int) == 0) = true := by simpa using hd0
          have HD0 := Lib.hid hd0; clear hd0
          by_cases hL0 : L = 0
          · subst hL0
            rw [if_neg (by simp)] at hsc
            have HSC := Lib.hid hsc; clear hsc
            clear HPREV
            go_wp2_with fail
            refine (HNM.out _).mono ?_
            rintro e w1 ⟨rfl, hb⟩
            obtain ⟨p1, rfl⟩ := gw_of_below hb
            clear hb
            have hgp1 : g < w.heap.size + p.os.size + p1.os.size := by omega
            go_wp2_with fail
            refine (HLV.out _).mono ?_
            rintro e w1 ⟨rfl, rfl⟩
            go_wp2_with fail
            go_roundw
            case rel => exact ⟨k + 1, best, lev, (d + 1), by omega, by omega, by omega, by omega, rfl, rfl, rfl, by go_num, by (repeat (first | exact Below.refl _ _ | refine Below.drew ?_ | (refine below_gw' ?_ (by first | omega | (simp [go_sem]; done) | (simp [go_sem]; omega)) _) | (refine Below.alloc ?_ (by first | omega | (simp [go_sem]; done) | (simp [go_sem]; omega)) _) | (refine Below.setCell ?_ (by first | omega | (simp [go_sem]; done) | (simp [go_sem]; omega)) _))), HSC⟩
            case measure => simp [intOf]; omega
          have hL1 : (0 : Int) < (L : Int) := by omega
          by_cases hLl : L ≤ lev
          · have hLl' : (L : Int) ≤ (lev : Int) := by omega
            obtain ⟨k', hk'⟩ : ∃ k', k = k' + 1 := ⟨k - 1, by omega⟩
            obtain ⟨t', ⟨e0, e1, e2, e3⟩, hends⟩ := HPREV.out k' hk'
            have hkk : ((k : Int) - 1).toNat = k' := by omega
            have hkk2 : (k : Int) - 1 = (k' : Int) := by omega
            have HENDS := Lib.hid hends; clear hends HPREV hk' hkk
            have hke : (k' : Int) < (l.length : Int) := by omega
            have hke0 : (0 : Int) ≤ (k' : Int) := by omega
            rcases pe with _ | _
            · rw [if_neg (by simp)] at hsc
              have HSC := Lib.hid hsc; clear hsc
              go_wp2_with fail
              refine (HNM.out _).mono ?_
              rintro e w1 ⟨rfl, hb⟩
              obtain ⟨p1, rfl⟩ := gw_of_below hb
              clear hb
              have hgp1 : g < w.heap.size + p.os.size + p1.os.size := by omega
              go_wp2_with fail
              refine (HLV.out _).mono ?_
              rintro e w1 ⟨rfl, rfl⟩
              go_wp2_with fail
              refine (HLV.out _).mono ?_
              rintro e w1 ⟨rfl, rfl⟩
              go_wp2_with fail
              refine (HENDS.out _).mono ?_
              rintro e w1 ⟨rfl, hb⟩
              obtain ⟨p2, rfl⟩ := gw_of_below hb
              clear hb
              go_wp2_with fail
              go_roundw
              case rel => exact ⟨k + 1, best, lev, (d + 1), by omega, by omega, by omega, by omega, rfl, rfl, rfl, by go_num, by (repeat (first | exact Below.refl _ _ | refine Below.drew ?_ | (refine below_gw' ?_ (by first | omega | (simp [go_sem]; done) | (simp [go_sem]; omega)) _) | (refine Below.alloc ?_ (by first | omega | (simp [go_sem]; done) | (simp [go_sem]; omega)) _) | (refine Below.setCell ?_ (by first | omega | (simp [go_sem]; done) | (simp [go_sem]; omega)) _))), HSC⟩
              case measure => simp [intOf]; omega
            · rw [if_pos ⟨rfl, by have := HD0.out; omega, by omega, hLl⟩] at hsc
              have HSC := Lib.hid hsc; clear hsc
              go_wp2_with fail
              refine (HNM.out _).mono ?_
              rintro e w1 ⟨rfl, hb⟩
              obtain ⟨p1, rfl⟩ := gw_of_below hb
              clear hb
              have hgp1 : g < w.heap.size + p.os.size + p1.os.size := by omega
              go_wp2_with fail
              refine (HLV.out _).mono ?_
              rintro e w1 ⟨rfl, rfl⟩
              go_wp2_with fail
              refine (HLV.out _).mono ?_
              rintro e w1 ⟨rfl, rfl⟩
              go_wp2_with fail
              refine (HENDS.out _).mono ?_
              rintro e w1 ⟨rfl, hb⟩
              obtain ⟨p2, rfl⟩ := gw_of_below hb
              clear hb
              go_wp2_with fail
              refine (HLV.out _).mono ?_
              rintro e w1 ⟨rfl, rfl⟩
              go_wp2_with fail
              go_roundw
              case rel => exact ⟨k + 1, (some k), L, (d + 1), by omega, by omega, by omega, by omega, rfl, rfl, rfl, by go_num, by (repeat (first | exact Below.refl _ _ | refine Below.drew ?_ | (refine below_gw' ?_ (by first | omega | (simp [go_sem]; done) | (simp [go_sem]; omega)) _) | (refine Below.alloc ?_ (by first | omega | (simp [go_sem]; done) | (simp [go_sem]; omega)) _) | (refine Below.setCell ?_ (by first | omega | (simp [go_sem]; done) | (simp [go_sem]; omega)) _))), HSC⟩
              case measure => simp [intOf]; omega
          · have hLl' : ¬ (L : Int) ≤ (lev : Int) := by omega
            rw [if_neg (by intro h; exact hLl h.2.2.2)] at hsc
            have HSC := Lib.hid hsc; clear hsc
            clear HPREV
            go_wp2_with fail
            refine (HNM.out _).mono ?_
            rintro e w1 ⟨rfl, hb⟩
            obtain ⟨p1, rfl⟩ := gw_of_below hb
            clear hb
            have hgp1 : g < w.heap.size + p.os.size + p1.os.size := by omega
            go_wp2_with fail
            refine (HLV.out _).mono ?_
            rintro e w1 ⟨rfl, rfl⟩
            go_wp2_with fail
            refine (HLV.out _).mono ?_
            rintro e w1 ⟨rfl, rfl⟩
            go_wp2_with fail
            go_roundw
            case rel => exact ⟨k + 1, best, lev, (d + 1), by omega, by omega, by omega, by omega, rfl, rfl, rfl, by go_num, by (repeat (first | exact Below.refl _ _ | refine Below.drew ?_ | (refine below_gw' ?_ (by first | omega | (simp [go_sem]; done) | (simp [go_sem]; omega)) _) | (refine Below.alloc ?_ (by first | omega | (simp [go_sem]; done) | (simp [go_sem]; omega)) _) | (refine Below.setCell ?_ (by first | omega | (simp [go_sem]; done) | (simp [go_sem]; omega)) _))), HSC⟩
            case measure => simp [intOf]; omega
        · have hd0' : (((d + 1) : Int) == 0) = false := by simpa using hd0
          rw [if_neg (by intro h; exact hd0 (by omega))] at hsc
          have HSC := Lib.hid hsc; clear hsc
          clear HPREV
          go_wp2_with fail
          refine (HNM.out _).mono ?_
          rintro e w1 ⟨rfl, hb⟩
          obtain ⟨p1, rfl⟩ := gw_of_below hb
          clear hb
          have hgp1 : g < w.heap.size + p.os.size + p1.os.size := by omega
          go_wp2_with fail
          go_roundw
          case rel => exact ⟨k + 1, best, lev, (d + 1), by omega, by omega, by omega, by omega, rfl, rfl, rfl, by go_num, by (repeat (first | exact Below.refl _ _ | refine Below.drew ?_ | (refine below_gw' ?_ (by first | omega | (simp [go_sem]; done) | (simp [go_sem]; omega)) _) | (refine Below.alloc ?_ (by first | omega | (simp [go_sem]; done) | (simp [go_sem]; omega)) _) | (refine Below.setCell ?_ (by first | omega | (simp [go_sem]; done) | (simp [go_sem]; omega)) _))), HSC⟩
          case measure => simp [intOf]; omega
      have n40 : (N.toList == [40]) = false := by simpa using h40
      rw [if_neg h40] at hsc
      clear h40
      by_cases h41 : N.toList = [41]
      · rw [if_pos h41, show d + -1 = d - 1 by omega] at hsc
        have n41 : (N.toList == [41]) = true := by rw [h41]; rfl
        clear h41
        by_cases hk00 : k = 0
        · have hpf := hpe0 hk00
          subst hpf
          rw [if_neg (by simp)] at hsc
          have HSC := Lib.hid hsc; clear hsc
          have hk2 : ¬ (0 : Int) < (k : Int) := by omega
          clear hpe0 HPREV hk00
          go_wp2_with fail
          refine (HNM.out _).mono ?_
          rintro e w1 ⟨rfl, hb⟩
          obtain ⟨p1, rfl⟩ := gw_of_below hb
          clear hb
          have hgp1 : g < w.heap.size + p.os.size + p1.os.size := by omega
          go_wp2_with fail
          go_roundw
          case rel => exact ⟨k + 1, best, lev, (d - 1), by omega, by omega, by omega, by omega, rfl, rfl, rfl, by go_num, by (repeat (first | exact Below.refl _ _ | refine Below.drew ?_ | (refine below_gw' ?_ (by first | omega | (simp [go_sem]; done) | (simp [go_sem]; omega)) _) | (refine Below.alloc ?_ (by first | omega | (simp [go_sem]; done) | (simp [go_sem]; omega)) _) | (refine Below.setCell ?_ (by first | omega | (simp [go_sem]; done) | (simp [go_sem]; omega)) _))), HSC⟩
          case measure => simp [intOf]; omega
        have hk2 : (0 : Int) < (k : Int) := by omega
        clear hpe0
        by_cases hd0 : (d - 1) = 0
        · have hd1' : (((d - 1) : Int) == 0) = true := by simpa using hd0
          have HD0 := Lib.hid hd0; clear hd0
          by_cases hL0 : L = 0
          · subst hL0
            rw [if_neg (by simp)] at hsc
            have HSC := Lib.hid hsc; clear hsc
            clear HPREV
            go_wp2_with fail
            refine (HNM.out _).mono ?_
            rintro e w1 ⟨rfl, hb⟩
            obtain ⟨p1, rfl⟩ := gw_of_below hb
            clear hb
            have hgp1 : g < w.heap.size + p.os.size + p1.os.size := by omega
            go_wp2_with fail
            refine (HLV.out _).mono ?_
            rintro e w1 ⟨rfl, rfl⟩
            go_wp2_with fail
            go_roundw
            case rel => exact ⟨k + 1, best, lev, (d - 1), by omega, by omega, by omega, by omega, rfl, rfl, rfl, by go_num, by (repeat (first | exact Below.refl _ _ | refine Below.drew ?_ | (refine below_gw' ?_ (by first | omega | (simp [go_sem]; done) | (simp [go_sem]; omega)) _) | (refine Below.alloc ?_ (by first | omega | (simp [go_sem]; done) | (simp [go_sem]; omega)) _) | (refine Below.setCell ?_ (by first | omega | (simp [go_sem]; done) | (simp [go_sem]; omega)) _))), HSC⟩
            case measure => simp [intOf]; omega
          have hL1 : (0 : Int) < (L : Int) := by omega
          by_cases hLl : L ≤ lev
          · have hLl' : (L : Int) ≤ (lev : Int) := by omega
            obtain ⟨k', hk'⟩ : ∃ k', k = k' + 1 := ⟨k - 1, by omega⟩
            obtain ⟨t', ⟨e0, e1, e2, e3⟩, hends⟩ := HPREV.out k' hk'
            have hkk : ((k : Int) - 1).toNat = k' := by omega
            have hkk2 : (k : Int) - 1 = (k' : Int) := by omega
            have HENDS := Lib.hid hends; clear hends HPREV hk' hkk
            have hke : (k' : Int) < (l.length : Int) := by omega
            have hke0 : (0 : Int) ≤ (k' : Int) := by omega
            rcases pe with _ | _
            · rw [if_neg (by simp)] at hsc
              have HSC := Lib.hid hsc; clear hsc
              go_wp2_with fail
              refine (HNM.out _).mono ?_
              rintro e w1 ⟨rfl, hb⟩
              obtain ⟨p1, rfl⟩ := gw_of_below hb
              clear hb
              have hgp1 : g < w.heap.size + p.os.size + p1.os.size := by omega
              go_wp2_with fail
              refine (HLV.out _).mono ?_
              rintro e w1 ⟨rfl, rfl⟩
              go_wp2_with fail
              refine (HLV.out _).mono ?_
              rintro e w1 ⟨rfl, rfl⟩
              go_wp2_with fail
              refine (HENDS.out _).mono ?_
              rintro e w1 ⟨rfl, hb⟩
              obtain ⟨p2, rfl⟩ := gw_of_below hb
              clear hb
              go_wp2_with fail
              go_roundw
              case rel => exact ⟨k + 1, best, lev, (d - 1), by omega, by omega, by omega, by omega, rfl, rfl, rfl, by go_num, by (repeat (first | exact Below.refl _ _ | refine Below.drew ?_ | (refine below_gw' ?_ (by first | omega | (simp [go_sem]; done) | (simp [go_sem]; omega)) _) | (refine Below.alloc ?_ (by first | omega | (simp [go_sem]; done) | (simp [go_sem]; omega)) _) | (refine Below.setCell ?_ (by first | omega | (simp [go_sem]; done) | (simp [go_sem]; omega)) _))), HSC⟩
              case measure => simp [intOf]; omega
            · rw [if_pos ⟨rfl, by have := HD0.out; omega, by omega, hLl⟩] at hsc
              have HSC := Lib.hid hsc; clear hsc
              go_wp2_with fail
              refine (HNM.out _).mono ?_
              rintro e w1 ⟨rfl, hb⟩
              obtain ⟨p1, rfl⟩ := gw_of_below hb
              clear hb
              have hgp1 : g < w.heap.size + p.os.size + p1.os.size := by omega
              go_wp2_with fail
              refine (HLV.out _).mono ?_
              rintro e w1 ⟨rfl, rfl⟩
              go_wp2_with fail
              refine (HLV.out _).mono ?_
              rintro e w1 ⟨rfl, rfl⟩
              go_wp2_with fail
              refine (HENDS.out _).mono ?_
              rintro e w1 ⟨rfl, hb⟩
              obtain ⟨p2, rfl⟩ := gw_of_below hb
              clear hb
              go_wp2_with fail
              refine (HLV.out _).mono ?_
              rintro e w1 ⟨rfl, rfl⟩
              go_wp2_with fail
              go_roundw
              case rel => exact ⟨k + 1, (some k), L, (d - 1), by omega, by omega, by omega, by omega, rfl, rfl, rfl, by go_num, by (repeat (first | exact Below.refl _ _ | refine Below.drew ?_ | (refine below_gw' ?_ (by first | omega | (simp [go_sem]; done) | (simp [go_sem]; omega)) _) | (refine Below.alloc ?_ (by first | omega | (simp [go_sem]; done) | (simp [go_sem]; omega)) _) | (refine Below.setCell ?_ (by first | omega | (simp [go_sem]; done) | (simp [go_sem]; omega)) _))), HSC⟩
              case measure => simp [intOf]; omega
          · have hLl' : ¬ (L : Int) ≤ (lev : Int) := by omega
            rw [if_neg (by intro h; exact hLl h.2.2.2)] at hsc
            have HSC := Lib.hid hsc; clear hsc
            clear HPREV
            go_wp2_with fail
            refine (HNM.out _).mono ?_
            rintro e w1 ⟨rfl, hb⟩
            obtain ⟨p1, rfl⟩ := gw_of_below hb
            clear hb
            have hgp1 : g < w.heap.size + p.os.size + p1.os.size := by omega
            go_wp2_with fail
            refine (HLV.out _).mono ?_
            rintro e w1 ⟨rfl, rfl⟩
            go_wp2_with fail
            refine (HLV.out _).mono ?_
            rintro e w1 ⟨rfl, rfl⟩
            go_wp2_with fail
            go_roundw
            case rel => exact ⟨k + 1, best, lev, (d - 1), by omega, by omega, by omega, by omega, rfl, rfl, rfl, by go_num, by (repeat (first | exact Below.refl _ _ | refine Below.drew ?_ | (refine below_gw' ?_ (by first | omega | (simp [go_sem]; done) | (simp [go_sem]; omega)) _) | (refine Below.alloc ?_ (by first | omega | (simp [go_sem]; done) | (simp [go_sem]; omega)) _) | (refine Below.setCell ?_ (by first | omega | (simp [go_sem]; done) | (simp [go_sem]; omega)) _))), HSC⟩
            case measure => simp [intOf]; omega
        · have hd0' : (((d - 1) : Int) == 0) = false := by simpa using hd0
          rw [if_neg (by intro h; exact hd0 (by omega))] at hsc
          have HSC := Lib.hid hsc; clear hsc
          clear HPREV
          go_wp2_with fail
          refine (HNM.out _).mono ?_
          rintro e w1 ⟨rfl, hb⟩
          obtain ⟨p1, rfl⟩ := gw_of_below hb
          clear hb
          have hgp1 : g < w.heap.size + p.os.size + p1.os.size := by omega
          go_wp2_with fail
          go_roundw
          case rel => exact ⟨k + 1, best, lev, (d - 1), by omega, by omega, by omega, by omega, rfl, rfl, rfl, by go_num, by (repeat (first | exact Below.refl _ _ | refine Below.drew ?_ | (refine below_gw' ?_ (by first | omega | (simp [go_sem]; done) | (simp [go_sem]; omega)) _) | (refine Below.alloc ?_ (by first | omega | (simp [go_sem]; done) | (simp [go_sem]; omega)) _) | (refine Below.setCell ?_ (by first | omega | (simp [go_sem]; done) | (simp [go_sem]; omega)) _))), HSC⟩
          case measure => simp [intOf]; omega
      · rw [if_neg h41, show d + 0 = d by omega] at hsc
        have n41 : (N.toList == [41]) = false := by simpa using h41
        clear h41
        by_cases hk00 : k = 0
        · have hpf := hpe0 hk00
          subst hpf
          rw [if_neg (by simp)] at hsc
          have HSC := Lib.hid hsc; clear hsc
          have hk2 : ¬ (0 : Int) < (k : Int) := by omega
          clear hpe0 HPREV hk00
          go_wp2_with fail
          refine (HNM.out _).mono ?_
          rintro e w1 ⟨rfl, hb⟩
          obtain ⟨p1, rfl⟩ := gw_of_below hb
          clear hb
          have hgp1 : g < w.heap.size + p.os.size + p1.os.size := by omega
          go_wp2_with fail
          go_roundw
          case rel => exact ⟨k + 1, best, lev, d, by omega, by omega, by omega, by omega, rfl, rfl, rfl, by go_num, by (repeat (first | exact Below.refl _ _ | refine Below.drew ?_ | (refine below_gw' ?_ (by first | omega | (simp [go_sem]; done) | (simp [go_sem]; omega)) _) | (refine Below.alloc ?_ (by first | omega | (simp [go_sem]; done) | (simp [go_sem]; omega)) _) | (refine Below.setCell ?_ (by first | omega | (simp [go_sem]; done) | (simp [go_sem]; omega)) _))), HSC⟩
          case measure => simp [intOf]; omega
        have hk2 : (0 : Int) < (k : Int) := by omega
        clear hpe0
        by_cases hd0 : d = 0
        · have hd1' : ((d : Int) == 0) = true := by simpa using hd0
          have HD0 := Lib.hid hd0; clear hd0
          by_cases hL0 : L = 0
          · subst hL0
            rw [if_neg (by simp)] at hsc
            have HSC := Lib.hid hsc; clear hsc
            clear HPREV
            go_wp2_with fail
            refine (HNM.out _).mono ?_
            rintro e w1 ⟨rfl, hb⟩
            obtain ⟨p1, rfl⟩ := gw_of_below hb
            clear hb
            have hgp1 : g < w.heap.size + p.os.size + p1.os.size := by omega
            go_wp2_with fail
            refine (HLV.out _).mono ?_
            rintro e w1 ⟨rfl, rfl⟩
            go_wp2_with fail
            go_roundw
            case rel => exact ⟨k + 1, best, lev, d, by omega, by omega, by omega, by omega, rfl, rfl, rfl, by go_num, by (repeat (first | exact Below.refl _ _ | refine Below.drew ?_ | (refine below_gw' ?_ (by first | omega | (simp [go_sem]; done) | (simp [go_sem]; omega)) _) | (refine Below.alloc ?_ (by first | omega | (simp [go_sem]; done) | (simp [go_sem]; omega)) _) | (refine Below.setCell ?_ (by first | omega | (simp [go_sem]; done) | (simp [go_sem]; omega)) _))), HSC⟩
            case measure => simp [intOf]; omega
          have hL1 : (0 : Int) < (L : Int) := by omega
          by_cases hLl : L ≤ lev
          · have hLl' : (L : Int) ≤ (lev : Int) := by omega
            obtain ⟨k', hk'⟩ : ∃ k', k = k' + 1 := ⟨k - 1, by omega⟩
            obtain ⟨t', ⟨e0, e1, e2, e3⟩, hends⟩ := HPREV.out k' hk'
            have hkk : ((k : Int) - 1).toNat = k' := by omega
            have hkk2 : (k : Int) - 1 = (k' : Int) := by omega
            have HENDS := Lib.hid hends; clear hends HPREV hk' hkk
            have hke : (k' : Int) < (l.length : Int) := by omega
            have hke0 : (0 : Int) ≤ (k' : Int) := by omega
            rcases pe with _ | _
            · rw [if_neg (by simp)] at hsc
              have HSC := Lib.hid hsc; clear hsc
              go_wp2_with fail
              refine (HNM.out _).mono ?_
              rintro e w1 ⟨rfl, hb⟩
              obtain ⟨p1, rfl⟩ := gw_of_below hb
              clear hb
              have hgp1 : g < w.heap.size + p.os.size + p1.os.size := by omega
              go_wp2_with fail
              refine (HLV.out _).mono ?_
              rintro e w1 ⟨rfl, rfl⟩
              go_wp2_with fail
              refine (HLV.out _).mono ?_
              rintro e w1 ⟨rfl, rfl⟩
              go_wp2_with fail
              refine (HENDS.out _).mono ?_
              rintro e w1 ⟨rfl, hb⟩
              obtain ⟨p2, rfl⟩ := gw_of_below hb
              clear hb
              go_wp2_with fail
              go_roundw
              case rel => exact ⟨k + 1, best, lev, d, by omega, by omega, by omega, by omega, rfl, rfl, rfl, by go_num, by (repeat (first | exact Below.refl _ _ | refine Below.drew ?_ | (refine below_gw' ?_ (by first | omega | (simp [go_sem]; done) | (simp [go_sem]; omega)) _) | (refine Below.alloc ?_ (by first | omega | (simp [go_sem]; done) | (simp [go_sem]; omega)) _) | (refine Below.setCell ?_ (by first | omega | (simp [go_sem]; done) | (simp [go_sem]; omega)) _))), HSC⟩
              case measure => simp [intOf]; omega
            · rw [if_pos ⟨rfl, by have := HD0.out; omega, by omega, hLl⟩] at hsc
              have HSC := Lib.hid hsc; clear hsc
              go_wp2_with fail
              refine (HNM.out _).mono ?_
              rintro e w1 ⟨rfl, hb⟩
              obtain ⟨p1, rfl⟩ := gw_of_below hb
              clear hb
              have hgp1 : g < w.heap.size + p.os.size + p1.os.size := by omega
              go_wp2_with fail
              refine (HLV.out _).mono ?_
              rintro e w1 ⟨rfl, rfl⟩
              go_wp2_with fail
              refine (HLV.out _).mono ?_
              rintro e w1 ⟨rfl, rfl⟩
              go_wp2_with fail
              refine (HENDS.out _).mono ?_
              rintro e w1 ⟨rfl, hb⟩
              obtain ⟨p2, rfl⟩ := gw_of_below hb
              clear hb
              go_wp2_with fail
              refine (HLV.out _).mono ?_
              rintro e w1 ⟨rfl, rfl⟩
              go_wp2_with fail
              go_roundw
              case rel => exact ⟨k + 1, (some k), L, d, by omega, by omega, by omega, by omega, rfl, rfl, rfl, by go_num, by (repeat (first | exact Below.refl _ _ | refine Below.drew ?_ | (refine below_gw' ?_ (by first | omega | (simp [go_sem]; done) | (simp [go_sem]; omega)) _) | (refine Below.alloc ?_ (by first | omega | (simp [go_sem]; done) | (simp [go_sem]; omega)) _) | (refine Below.setCell ?_ (by first | omega | (simp [go_sem]; done) | (simp [go_sem]; omega)) _))), HSC⟩
              case measure => simp [intOf]; omega
          · have hLl' : ¬ (L : Int) ≤ (lev : Int) := by omega
            rw [if_neg (by intro h; exact hLl h.2.2.2)] at hsc
            have HSC := Lib.hid hsc; clear hsc
            clear HPREV
            go_wp2_with fail
            refine (HNM.out _).mono ?_
            rintro e w1 ⟨rfl, hb⟩
            obtain ⟨p1, rfl⟩ := gw_of_below hb
            clear hb
            have hgp1 : g < w.heap.size + p.os.size + p1.os.size := by omega
            go_wp2_with fail
            refine (HLV.out _).mono ?_
            rintro e w1 ⟨rfl, rfl⟩
            go_wp2_with fail
            refine (HLV.out _).mono ?_
            rintro e w1 ⟨rfl, rfl⟩
            go_wp2_with fail
            go_roundw
            case rel => exact ⟨k + 1, best, lev, d, by omega, by omega, by omega, by omega, rfl, rfl, rfl, by go_num, by (repeat (first | exact Below.refl _ _ | refine Below.drew ?_ | (refine below_gw' ?_ (by first | omega | (simp [go_sem]; done) | (simp [go_sem]; omega)) _) | (refine Below.alloc ?_ (by first | omega | (simp [go_sem]; done) | (simp [go_sem]; omega)) _) | (refine Below.setCell ?_ (by first | omega | (simp [go_sem]; done) | (simp [go_sem]; omega)) _))), HSC⟩
            case measure => simp [intOf]; omega
        · have hd0' : ((d : Int) == 0) = false := by simpa using hd0
          rw [if_neg (by intro h; exact hd0 (by omega))] at hsc
          have HSC := Lib.hid hsc; clear hsc
          clear HPREV
          go_wp2_with fail
          refine (HNM.out _).mono ?_
          rintro e w1 ⟨rfl, hb⟩
          obtain ⟨p1, rfl⟩ := gw_of_below hb
          clear hb
          have hgp1 : g < w.heap.size + p.os.size + p1.os.size := by omega
          go_wp2_with fail
          go_roundw
          case rel => exact ⟨k + 1, best, lev, d, by omega, by omega, by omega, by omega, rfl, rfl, rfl, by go_num, by (repeat (first | exact Below.refl _ _ | refine Below.drew ?_ | (refine below_gw' ?_ (by first | omega | (simp [go_sem]; done) | (simp [go_sem]; omega)) _) | (refine Below.alloc ?_ (by first | omega | (simp [go_sem]; done) | (simp [go_sem]; omega)) _) | (refine Below.setCell ?_ (by first | omega | (simp [go_sem]; done) | (simp [go_sem]; omega)) _))), HSC⟩
          case measure => simp [intOf]; omega
    · obtain rfl : k = l.length := by omega
      have hsc := HK.out
      rw [List.drop_of_length_le (Nat.le_refl _)] at hsc
      obtain rfl : best = R := hsc
      go_wp2_with fail
      go_ret
      exact ⟨rfl, by (repeat (first | exact Below.refl _ _ | refine Below.drew ?_ | (refine below_gw' ?_ (by first | omega | (simp [go_sem]; done) | (simp [go_sem]; omega)) _) | (refine Below.alloc ?_ (by first | omega | (simp [go_sem]; done) | (simp [go_sem]; omega)) _) | (refine Below.setCell ?_ (by first | omega | (simp [go_sem]; done) | (simp [go_sem]; omega)) _)))⟩
end Go.Proofs.YtnjpfhihbjihbaaGreatDoor
