/- Joined texts: Closed17, Five. -/
import Derived.Test.YtnjpfhihbjihbaaGreatDoorS09
import Derived.Test.YtnjpfhihbjihbaaGreatDoorS13
/- The reference's closed. (Written by wip/gen_closed17.py.) -/
namespace Go.Proofs.YtnjpfhihbjihbaaGreatDoor
open Go.RowKit Go.Sort

theorem cls_one (d : Int) (t : Tok) : cls exLang d [t] = decide (d + dl exLang t = 0) := rfl
theorem cls_cons (d : Int) (t t' : Tok) (l : List Tok) : cls exLang d (t :: t' :: l) = if d + dl exLang t ≤ 0 then false else cls exLang (d + dl exLang t) (t' :: l) := rfl
theorem cls_nil (d : Int) : cls exLang d [] = decide (d = 0) := rfl

set_option maxHeartbeats 8000000 in
set_option maxRecDepth 100000 in
theorem closed17_any (l : List Tok) (v : Value) (w : World) (hr : Row w v l.length (tokc l)) (hs : ∀ t ∈ l, t.text.size ≤ 1000000) (hl : l.length ≤ 1000000) :
    Calls Tryz.prog 99 #[v] w fun e w' => e = .returned (.bool (cls exLang 0 l)) ∧ Below w.heap.size w w' := by
  obtain ⟨R, hR⟩ : ∃ R, cls exLang 0 l = R := ⟨_, rfl⟩
  rw [hR]
  obtain ⟨a, cap, rfl, hcap, hcs⟩ := hr.tok
  have HR := Lib.hid hR; clear hR hr
  have HCS := Lib.hid hcs; clear hcs
  go_enter Tryz.func99, Tryz.ntmps99
  go_wp2_with fail
  go_loopw [3, 4] (fun dp i wr => ∃ (k : Nat) (d : Int), k ≤ l.length ∧ -(k : Int) ≤ d ∧ d ≤ (k : Int) ∧ dp = .int .i64 d ∧ i = .int .i64 k ∧ Below w.heap.size w wr ∧ Hid (cls exLang d (l.drop k) = R)) (fun _ i _ => l.length - (intOf i).toNat)
  case atStart => exact ⟨0, 0, Nat.zero_le _, by omega, by omega, rfl, rfl, Below.refl _ _, HR⟩
  case round =>
    obtain ⟨k, d, hk, hd1, hd2, rfl, rfl, hbel, HK⟩ := hrel
    obtain ⟨p, rfl⟩ := gw_of_below hbel
    clear hbel HR
    by_cases hlt : k < l.length
    · have hk0 : (0 : Int) ≤ (k : Int) := by omega
      have hk1 : (k : Int) < (l.length : Int) := by omega
      obtain ⟨t, ht⟩ : ∃ t, l[k]? = some t := ⟨l[k], by simp [hlt]⟩
      obtain ⟨g, o, rfl, hg, hcell⟩ := HCS.out (by intro h; rw [h] at hlt; simp at hlt)
      obtain ⟨c0, c1, c2, c3⟩ := hcell k t ht
      have hm : t ∈ l := List.mem_of_getElem? ht
      have hnm := fun w => rtname_any t w (hs t hm)
      have hsc := HK.out
      rw [drop_get l k t ht] at hsc
      have hdl := dl_val t
      obtain ⟨N, hN⟩ : ∃ N, tnm t = N := ⟨_, rfl⟩
      rw [hN] at hdl
      simp only [hN] at hnm
      have HNM := Lib.hid hnm; clear hnm hm hN HK hcell
      have hgp : g < w.heap.size + p.os.size := by omega
      have hcase : (k + 1 = l.length ∧ decide (d + dl exLang t = 0) = R ∧ l.drop (k + 1) = []) ∨ (k + 1 < l.length ∧ (if d + dl exLang t ≤ 0 then false else cls exLang (d + dl exLang t) (l.drop (k + 1))) = R) := by
        rcases Nat.lt_or_ge (k + 1) l.length with h | h
        · right
          refine ⟨h, ?_⟩
          rw [drop_get l (k + 1) l[k + 1] (by simp [h])] at hsc ⊢
          rw [cls_cons] at hsc
          exact hsc
        · left
          have h2 : l.drop (k + 1) = [] := List.drop_of_length_le h
          rw [h2, cls_one] at hsc
          exact ⟨by omega, hsc, h2⟩
      clear hsc ht
      by_cases h40 : N.toList = [40]
      · rw [if_pos h40] at hdl
        rw [hdl] at hcase
        have n41 : (N.toList == [41]) = false := by rw [h40]; rfl
        have n40 : (N.toList == [40]) = true := by rw [h40]; rfl
        clear h40 hdl
        rcases hcase with ⟨hlast, hres, hnil⟩ | ⟨hmore, hres⟩
        · have hke : ¬ (k : Int) < (l.length : Int) - 1 := by omega
          have hsc : cls exLang (d + 1) (l.drop (k + 1)) = R := by rw [hnil, cls_nil]; exact hres
          have HSC := Lib.hid hsc; clear hsc hres hnil hlast
          go_wp2_with fail
          refine (HNM.out _).mono ?_
          rintro e w1 ⟨rfl, hb⟩
          obtain ⟨p1, rfl⟩ := gw_of_below hb
          clear hb
          have hgp1 : g < w.heap.size + p.os.size + p1.os.size := by omega
          go_wp2_with fail
          refine (HNM.out _).mono ?_
          rintro e w1 ⟨rfl, hb⟩
          obtain ⟨p2, rfl⟩ := gw_of_below hb
          clear hb
          go_wp2_with fail
          all_goals
            go_roundw
            case rel => exact ⟨k + 1, (d + 1), by omega, by omega, by omega, rfl, by go_num, by (repeat (first | exact Below.refl _ _ | refine Below.drew ?_ | (refine below_gw' ?_ (by first | omega | (simp [go_sem]; done) | (simp [go_sem]; omega)) _) | (refine Below.alloc ?_ (by first | omega | (simp [go_sem]; done) | (simp [go_sem]; omega)) _) | (refine Below.setCell ?_ (by first | omega | (simp [go_sem]; done) | (simp [go_sem]; omega)) _))), HSC⟩
            case measure => simp [intOf]; omega
        · have hke : (k : Int) < (l.length : Int) - 1 := by omega
          by_cases hd0 : (d + 1) ≤ 0
          · rw [if_pos hd0] at hres
            subst hres
            go_wp2_with fail
            refine (HNM.out _).mono ?_
            rintro e w1 ⟨rfl, hb⟩
            obtain ⟨p1, rfl⟩ := gw_of_below hb
            clear hb
            have hgp1 : g < w.heap.size + p.os.size + p1.os.size := by omega
            go_wp2_with fail
            refine (HNM.out _).mono ?_
            rintro e w1 ⟨rfl, hb⟩
            obtain ⟨p2, rfl⟩ := gw_of_below hb
            clear hb
            go_wp2_with fail
            go_ret
            exact ⟨rfl, by (repeat (first | exact Below.refl _ _ | refine Below.drew ?_ | (refine below_gw' ?_ (by first | omega | (simp [go_sem]; done) | (simp [go_sem]; omega)) _) | (refine Below.alloc ?_ (by first | omega | (simp [go_sem]; done) | (simp [go_sem]; omega)) _) | (refine Below.setCell ?_ (by first | omega | (simp [go_sem]; done) | (simp [go_sem]; omega)) _)))⟩
          · rw [if_neg hd0] at hres
            have HSC := Lib.hid hres; clear hres
            go_wp2_with fail
            refine (HNM.out _).mono ?_
            rintro e w1 ⟨rfl, hb⟩
            obtain ⟨p1, rfl⟩ := gw_of_below hb
            clear hb
            have hgp1 : g < w.heap.size + p.os.size + p1.os.size := by omega
            go_wp2_with fail
            refine (HNM.out _).mono ?_
            rintro e w1 ⟨rfl, hb⟩
            obtain ⟨p2, rfl⟩ := gw_of_below hb
            clear hb
            go_wp2_with fail
            go_roundw
            case rel => exact ⟨k + 1, (d + 1), by omega, by omega, by omega, rfl, by go_num, by (repeat (first | exact Below.refl _ _ | refine Below.drew ?_ | (refine below_gw' ?_ (by first | omega | (simp [go_sem]; done) | (simp [go_sem]; omega)) _) | (refine Below.alloc ?_ (by first | omega | (simp [go_sem]; done) | (simp [go_sem]; omega)) _) | (refine Below.setCell ?_ (by first | omega | (simp [go_sem]; done) | (simp [go_sem]; omega)) _))), HSC⟩
            case measure => simp [intOf]; omega
      have n40 : (N.toList == [40]) = false := by simpa using h40
      rw [if_neg h40] at hdl
      clear h40
      by_cases h41 : N.toList = [41]
      · rw [if_pos h41] at hdl
        rw [hdl, show d + -1 = d - 1 by omega] at hcase
        have n41 : (N.toList == [41]) = true := by rw [h41]; rfl
        clear h41 hdl
        rcases hcase with ⟨hlast, hres, hnil⟩ | ⟨hmore, hres⟩
        · have hke : ¬ (k : Int) < (l.length : Int) - 1 := by omega
          have hsc : cls exLang (d - 1) (l.drop (k + 1)) = R := by rw [hnil, cls_nil]; exact hres
          have HSC := Lib.hid hsc; clear hsc hres hnil hlast
          go_wp2_with fail
          refine (HNM.out _).mono ?_
          rintro e w1 ⟨rfl, hb⟩
          obtain ⟨p1, rfl⟩ := gw_of_below hb
          clear hb
          have hgp1 : g < w.heap.size + p.os.size + p1.os.size := by omega
          go_wp2_with fail
          refine (HNM.out _).mono ?_
          rintro e w1 ⟨rfl, hb⟩
          obtain ⟨p2, rfl⟩ := gw_of_below hb
          clear hb
          go_wp2_with fail
          all_goals
            go_roundw
            case rel => exact ⟨k + 1, (d - 1), by omega, by omega, by omega, rfl, by go_num, by (repeat (first | exact Below.refl _ _ | refine Below.drew ?_ | (refine below_gw' ?_ (by first | omega | (simp [go_sem]; done) | (simp [go_sem]; omega)) _) | (refine Below.alloc ?_ (by first | omega | (simp [go_sem]; done) | (simp [go_sem]; omega)) _) | (refine Below.setCell ?_ (by first | omega | (simp [go_sem]; done) | (simp [go_sem]; omega)) _))), HSC⟩
            case measure => simp [intOf]; omega
        · have hke : (k : Int) < (l.length : Int) - 1 := by omega
          by_cases hd0 : (d - 1) ≤ 0
          · rw [if_pos hd0] at hres
            subst hres
            go_wp2_with fail
            refine (HNM.out _).mono ?_
            rintro e w1 ⟨rfl, hb⟩
            obtain ⟨p1, rfl⟩ := gw_of_below hb
            clear hb
            have hgp1 : g < w.heap.size + p.os.size + p1.os.size := by omega
            go_wp2_with fail
            refine (HNM.out _).mono ?_
            rintro e w1 ⟨rfl, hb⟩
            obtain ⟨p2, rfl⟩ := gw_of_below hb
            clear hb
            go_wp2_with fail
            go_ret
            exact ⟨rfl, by (repeat (first | exact Below.refl _ _ | refine Below.drew ?_ | (refine below_gw' ?_ (by first | omega | (simp [go_sem]; done) | (simp [go_sem]; omega)) _) | (refine Below.alloc ?_ (by first | omega | (simp [go_sem]; done) | (simp [go_sem]; omega)) _) | (refine Below.setCell ?_ (by first | omega | (simp [go_sem]; done) | (simp [go_sem]; omega)) _)))⟩
          · rw [if_neg hd0] at hres
            have HSC := Lib.hid hres; clear hres
            go_wp2_with fail
            refine (HNM.out _).mono ?_
            rintro e w1 ⟨rfl, hb⟩
            obtain ⟨p1, rfl⟩ := gw_of_below hb
            clear hb
            have hgp1 : g < w.heap.size + p.os.size + p1.os.size := by omega
            go_wp2_with fail
            refine (HNM.out _).mono ?_
            rintro e w1 ⟨rfl, hb⟩
            obtain ⟨p2, rfl⟩ := gw_of_below hb
            clear hb
            go_wp2_with fail
            go_roundw
            case rel => exact ⟨k + 1, (d - 1), by omega, by omega, by omega, rfl, by go_num, by (repeat (first | exact Below.refl _ _ | refine Below.drew ?_ | (refine below_gw' ?_ (by first | omega | (simp [go_sem]; done) | (simp [go_sem]; omega)) _) | (refine Below.alloc ?_ (by first | omega | (simp [go_sem]; done) | (simp [go_sem]; omega)) _) | (refine Below.setCell ?_ (by first | omega | (simp [go_sem]; done) | (simp [go_sem]; omega)) _))), HSC⟩
            case measure => simp [intOf]; omega
      · rw [if_neg h41] at hdl
        rw [hdl, show d + 0 = d by omega] at hcase
        have n41 : (N.toList == [41]) = false := by simpa using h41
        clear h41 hdl
        rcases hcase with ⟨hlast, hres, hnil⟩ | ⟨hmore, hres⟩
        · have hke : ¬ (k : Int) < (l.length : Int) - 1 := by omega
          have hsc : cls exLang d (l.drop (k + 1)) = R := by rw [hnil, cls_nil]; exact hres
          have HSC := Lib.hid hsc; clear hsc hres hnil hlast
          go_wp2_with fail
          refine (HNM.out _).mono ?_
          rintro e w1 ⟨rfl, hb⟩
          obtain ⟨p1, rfl⟩ := gw_of_below hb
          clear hb
          have hgp1 : g < w.heap.size + p.os.size + p1.os.size := by omega
          go_wp2_with fail
          refine (HNM.out _).mono ?_
          rintro e w1 ⟨rfl, hb⟩
          obtain ⟨p2, rfl⟩ := gw_of_below hb
          clear hb
          go_wp2_with fail
          all_goals
            go_roundw
            case rel => exact ⟨k + 1, d, by omega, by omega, by omega, rfl, by go_num, by (repeat (first | exact Below.refl _ _ | refine Below.drew ?_ | (refine below_gw' ?_ (by first | omega | (simp [go_sem]; done) | (simp [go_sem]; omega)) _) | (refine Below.alloc ?_ (by first | omega | (simp [go_sem]; done) | (simp [go_sem]; omega)) _) | (refine Below.setCell ?_ (by first | omega | (simp [go_sem]; done) | (simp [go_sem]; omega)) _))), HSC⟩
            case measure => simp [intOf]; omega
        · have hke : (k : Int) < (l.length : Int) - 1 := by omega
          by_cases hd0 : d ≤ 0
          · rw [if_pos hd0] at hres
            subst hres
            go_wp2_with fail
            refine (HNM.out _).mono ?_
            rintro e w1 ⟨rfl, hb⟩
            obtain ⟨p1, rfl⟩ := gw_of_below hb
            clear hb
            have hgp1 : g < w.heap.size + p.os.size + p1.os.size := by omega
            go_wp2_with fail
            refine (HNM.out _).mono ?_
            rintro e w1 ⟨rfl, hb⟩
            obtain ⟨p2, rfl⟩ := gw_of_below hb
            clear hb
            go_wp2_with fail
            go_ret
            exact ⟨rfl, by (repeat (first | exact Below.refl _ _ | refine Below.drew ?_ | (refine below_gw' ?_ (by first | omega | (simp [go_sem]; done) | (simp [go_sem]; omega)) _) | (refine Below.alloc ?_ (by first | omega | (simp [go_sem]; done) | (simp [go_sem]; omega)) _) | (refine Below.setCell ?_ (by first | omega | (simp [go_sem]; done) | (simp [go_sem]; omega)) _)))⟩
          · rw [if_neg hd0] at hres
            have HSC := Lib.hid hres; clear hres
            go_wp2_with fail
            refine (HNM.out _).mono ?_
            rintro e w1 ⟨rfl, hb⟩
            obtain ⟨p1, rfl⟩ := gw_of_below hb
            clear hb
            have hgp1 : g < w.heap.size + p.os.size + p1.os.size := by omega
            go_wp2_with fail
            refine (HNM.out _).mono ?_
            rintro e w1 ⟨rfl, hb⟩
            obtain ⟨p2, rfl⟩ := gw_of_below hb
            clear hb
            go_wp2_with fail
            go_roundw
            case rel => exact ⟨k + 1, d, by omega, by omega, by omega, rfl, by go_num, by (repeat (first | exact Below.refl _ _ | refine Below.drew ?_ | (refine below_gw' ?_ (by first | omega | (simp [go_sem]; done) | (simp [go_sem]; omega)) _) | (refine Below.alloc ?_ (by first | omega | (simp [go_sem]; done) | (simp [go_sem]; omega)) _) | (refine Below.setCell ?_ (by first | omega | (simp [go_sem]; done) | (simp [go_sem]; omega)) _))), HSC⟩
            case measure => simp [intOf]; omega
    · obtain rfl : k = l.length := by omega
      have hsc := HK.out
      rw [List.drop_of_length_le (Nat.le_refl _), cls_nil] at hsc
      have HSC := Lib.hid hsc; clear hsc HK
      go_wp2_with fail
      go_ret
      refine ⟨?_, by (repeat (first | exact Below.refl _ _ | refine Below.drew ?_ | (refine below_gw' ?_ (by first | omega | (simp [go_sem]; done) | (simp [go_sem]; omega)) _) | (refine Below.alloc ?_ (by first | omega | (simp [go_sem]; done) | (simp [go_sem]; omega)) _) | (refine Below.setCell ?_ (by first | omega | (simp [go_sem]; done) | (simp [go_sem]; omega)) _)))⟩
      rw [← HSC.out]
      congr 2
end Go.Proofs.YtnjpfhihbjihbaaGreatDoor

/- A node's five cells; equality of expressions. -/
namespace Go.Proofs.YtnjpfhihbjihbaaGreatDoor
open Go.RowKit Go.Sort

section
variable {P : Program}
theorem run_equalIn_nil_some (w : World) (d : Nat) (t : TypeId) (p : Addr) (h : P.underlying t = some (.pointer (P.pointee t))) :
    (Op.equalIn (d + 1) t (.pointer none) (.pointer (some p))).run P w = .ok false w := by
  simp [Op.equalIn, run_underlying h]
theorem run_equal_nil_some (w : World) (t : TypeId) (p : Addr) (h : P.underlying t = some (.pointer (P.pointee t))) :
    (Op.equal t (.pointer none) (.pointer (some p))).run P w = .ok false w := run_equalIn_nil_some w 9999 t p h
@[go_sem] theorem run_eql_nil_some (w : World) (t : TypeId) (p : Addr) (h : P.underlying t = some (.pointer (P.pointee t))) :
    (binOp .eql t (.pointer none) (.pointer (some p))).run P w = .ok (.bool false) w := by
  simp only [binOp]
  simp [run_equal_nil_some w t p h]
end
def Ex.kd : Ex → Int | .num _ => 1 | .sym _ => 2 | .here => 3 | .un _ _ => 4 | .bin _ _ _ => 5
def Ex.nn : Ex → Int | .num n => n | _ => 0
def Ex.nm : Ex → ByteArray | .sym s => s | .un op _ => op | .bin op _ _ => op | _ => ⟨#[]⟩
def Ex.ka : Ex → Option Ex | .un _ a => some a | .bin _ a _ => some a | _ => none
def Ex.kb : Ex → Option Ex | .bin _ _ b => some b | _ => none
theorem Ex.five_iff (x y : Ex) : x = y ↔ x.kd = y.kd ∧ x.nn = y.nn ∧ x.nm = y.nm ∧ x.ka = y.ka ∧ x.kb = y.kb := by
  constructor
  · rintro rfl; exact ⟨rfl, rfl, rfl, rfl, rfl⟩
  · rintro ⟨h1, h2, h3, h4, h5⟩
    cases x <;> cases y <;> simp only [Ex.kd, Ex.nn, Ex.nm, Ex.ka, Ex.kb, Option.some.injEq] at * <;> first | (subst h2; rfl) | (subst h3; rfl) | rfl | (subst h3 h4; rfl) | (subst h3 h4 h5; rfl) | (exact absurd h1 (by decide))
theorem NodeAt.five {T : TypeId} {B : Nat} {w : World} {x : Ex} {v : Value} (h : NodeAt T B w x v) : ∃ g a b, v = .pointer (some ⟨g, 0, none⟩) ∧ g < w.heap.size ∧ w.cell? ⟨g, 0, none⟩ = some (.int .i64 x.kd) ∧ w.cell? ⟨g, 1, none⟩ = some (.int .i64 x.nn) ∧ w.cell? ⟨g, 2, none⟩ = some (.string x.nm) ∧ w.cell? ⟨g, 3, none⟩ = some a ∧ w.cell? ⟨g, 4, none⟩ = some b ∧ OptAt T w x.ka a ∧ OptAt T w x.kb b := by
  have mk : ∀ {g : Nat} {c0 c1 c2 c3 c4 : Value}, w.heap[g]? = some (.cells #[c0, c1, c2, c3, c4] T (0, 0)) → w.cell? ⟨g, 0, none⟩ = some c0 ∧ w.cell? ⟨g, 1, none⟩ = some c1 ∧ w.cell? ⟨g, 2, none⟩ = some c2 ∧ w.cell? ⟨g, 3, none⟩ = some c3 ∧ w.cell? ⟨g, 4, none⟩ = some c4 := fun h => by
    refine ⟨?_, ?_, ?_, ?_, ?_⟩ <;> simp [World.cell?, h]
  cases x with
  | num n =>
    obtain ⟨g, _, hv, hh⟩ := h
    obtain ⟨e0, e1, e2, e3, e4⟩ := mk hh
    exact ⟨g, _, _, hv, lt_of_block hh, e0, e1, e2, e3, e4, rfl, rfl⟩
  | sym s =>
    obtain ⟨g, _, hv, hh⟩ := h
    obtain ⟨e0, e1, e2, e3, e4⟩ := mk hh
    exact ⟨g, _, _, hv, lt_of_block hh, e0, e1, e2, e3, e4, rfl, rfl⟩
  | here =>
    obtain ⟨g, _, hv, hh⟩ := h
    obtain ⟨e0, e1, e2, e3, e4⟩ := mk hh
    exact ⟨g, _, _, hv, lt_of_block hh, e0, e1, e2, e3, e4, rfl, rfl⟩
  | un op a =>
    obtain ⟨g, va, _, hv, hh, ha⟩ := h
    obtain ⟨e0, e1, e2, e3, e4⟩ := mk hh
    exact ⟨g, _, _, hv, lt_of_block hh, e0, e1, e2, e3, e4, ha.mono (Nat.zero_le _), rfl⟩
  | bin op a b =>
    obtain ⟨g, va, vb, _, hv, hh, ha, hb⟩ := h
    obtain ⟨e0, e1, e2, e3, e4⟩ := mk hh
    exact ⟨g, _, _, hv, lt_of_block hh, e0, e1, e2, e3, e4, ha.mono (Nat.zero_le _), hb.mono (Nat.zero_le _)⟩
theorem ka_nodes (x : Ex) : oNodes x.ka + 1 ≤ x.nodes ∧ oNodes x.kb + 1 ≤ x.nodes := by cases x <;> simp [Ex.ka, Ex.kb, oNodes, Ex.nodes] <;> omega
theorem OptAt.ptr0 {T : TypeId} {w : World} {o : Option Ex} {v : Value} (h : OptAt T w o v) : ∃ p, v = .pointer p := by
  cases o with
  | none => exact ⟨none, h⟩
  | some x => obtain ⟨g, h, _⟩ := NodeAt.ptr h; exact ⟨_, h⟩
/-- Whether two expressions are equal. -/
noncomputable def sameO (a b : Option Ex) : Bool := @decide (a = b) (Classical.propDecidable _)
theorem sameO_iff (a b : Option Ex) : sameO a b = true ↔ a = b := by unfold sameO; exact @decide_eq_true_iff _ (Classical.propDecidable _)
theorem sameO_true {a b : Option Ex} (h : a = b) : sameO a b = true := (sameO_iff a b).2 h
theorem sameO_false {a b : Option Ex} (h : a ≠ b) : sameO a b = false := by
  rcases hs : sameO a b with _ | _
  · rfl
  · exact absurd ((sameO_iff a b).1 hs) h
end Go.Proofs.YtnjpfhihbjihbaaGreatDoor
