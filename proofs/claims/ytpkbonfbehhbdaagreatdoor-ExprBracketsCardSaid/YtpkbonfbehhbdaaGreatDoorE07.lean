/- Joined texts: SameP, Lev17, SMap, Ranged, OpRaw, Eval, Fits. -/
import Derived.Test.YtpkbonfbehhbdaaGreatDoorE01
import Derived.Test.YtpkbonfbehhbdaaGreatDoorE02
import Derived.Test.YtpkbonfbehhbdaaGreatDoorE03
import Derived.Test.YtpkbonfbehhbdaaGreatDoorE04
import Derived.Test.YtpkbonfbehhbdaaGreatDoorE06
/- expr.Same. (Written by wip/gen_same.py.) -/
namespace Go.Proofs.YtpkbonfbehhbdaaGreatDoor
open Go.RowKit Go.Sort

set_option maxHeartbeats 4000000 in
set_option maxRecDepth 100000 in
theorem same_any : ∀ (n : Nat) (a b : Option Ex), oNodes a ≤ n → ∀ (va vb : Value) (w : World), OptAt 80 w a va → OptAt 80 w b vb →
    Calls Tryz.prog 23 #[va, vb] w fun e w' => e = .returned (.bool (sameO a b)) ∧ Below w.heap.size w w'
  | n, none, none, _, va, vb, w, ha, hb => by
    obtain rfl : va = .pointer none := ha
    obtain rfl : vb = .pointer none := hb
    rw [sameO_true rfl]
    go_enter Tryz.func23, Tryz.ntmps23
    go_wp2_with fail
    go_ret
    exact ⟨rfl, by (repeat (first | exact Below.refl _ _ | refine Below.drew ?_ | (refine below_gw' ?_ (by first | omega | (simp [go_sem]; done) | (simp [go_sem]; omega)) _) | (refine Below.alloc ?_ (by first | omega | (simp [go_sem]; done) | (simp [go_sem]; omega)) _) | (refine Below.setCell ?_ (by first | omega | (simp [go_sem]; done) | (simp [go_sem]; omega)) _)))⟩
  | n, none, some y, _, va, vb, w, ha, hb => by
    obtain rfl : va = .pointer none := ha
    obtain ⟨g, rfl, _⟩ := NodeAt.ptr hb
    rw [sameO_false (by simp)]
    clear hb
    go_enter Tryz.func23, Tryz.ntmps23
    go_wp2_with fail
    go_ret
    exact ⟨rfl, by (repeat (first | exact Below.refl _ _ | refine Below.drew ?_ | (refine below_gw' ?_ (by first | omega | (simp [go_sem]; done) | (simp [go_sem]; omega)) _) | (refine Below.alloc ?_ (by first | omega | (simp [go_sem]; done) | (simp [go_sem]; omega)) _) | (refine Below.setCell ?_ (by first | omega | (simp [go_sem]; done) | (simp [go_sem]; omega)) _)))⟩
  | n, some x, none, _, va, vb, w, ha, hb => by
    obtain rfl : vb = .pointer none := hb
    obtain ⟨g, rfl, _⟩ := NodeAt.ptr ha
    rw [sameO_false (by simp)]
    clear ha
    go_enter Tryz.func23, Tryz.ntmps23
    go_wp2_with fail
    go_ret
    exact ⟨rfl, by (repeat (first | exact Below.refl _ _ | refine Below.drew ?_ | (refine below_gw' ?_ (by first | omega | (simp [go_sem]; done) | (simp [go_sem]; omega)) _) | (refine Below.alloc ?_ (by first | omega | (simp [go_sem]; done) | (simp [go_sem]; omega)) _) | (refine Below.setCell ?_ (by first | omega | (simp [go_sem]; done) | (simp [go_sem]; omega)) _)))⟩
  | n, some x, some y, hn, va, vb, w, ha, hb => by
    obtain ⟨g, a3, a4, rfl, hg, c0, c1, c2, c3, c4, ka, kb⟩ := NodeAt.five ha
    obtain ⟨h, b3, b4, rfl, hh, d0, d1, d2, d3, d4, la, lb⟩ := NodeAt.five hb
    have hkn := ka_nodes x
    have hn' : x.nodes ≤ n := hn
    have n1 : 0 < n := by omega
    have ihA : ∀ w', Below w.heap.size w w' → Calls Tryz.prog 23 #[a3, b3] w' fun e w'' => e = .returned (.bool (sameO x.ka y.ka)) ∧ Below w'.heap.size w' w'' := fun w' hb' =>
      same_any (n - 1) x.ka y.ka (by omega) a3 b3 w' (ka.below hb') (la.below hb')
    have ihB : ∀ w', Below w.heap.size w w' → Calls Tryz.prog 23 #[a4, b4] w' fun e w'' => e = .returned (.bool (sameO x.kb y.kb)) ∧ Below w'.heap.size w' w'' := fun w' hb' =>
      same_any (n - 1) x.kb y.kb (by omega) a4 b4 w' (kb.below hb') (lb.below hb')
    obtain ⟨q3, rfl⟩ := ka.ptr0
    obtain ⟨q4, rfl⟩ := kb.ptr0
    obtain ⟨r3, rfl⟩ := la.ptr0
    obtain ⟨r4, rfl⟩ := lb.ptr0
    have hiff : some x = some y ↔ x.kd = y.kd ∧ x.nn = y.nn ∧ x.nm = y.nm ∧ x.ka = y.ka ∧ x.kb = y.kb := by rw [Option.some.injEq]; exact Ex.five_iff x y
    have hA := sameO_iff x.ka y.ka
    have hB := sameO_iff x.kb y.kb
    obtain ⟨R, hR⟩ : ∃ R, sameO (some x) (some y) = R := ⟨_, rfl⟩
    have hRR := sameO_iff (some x) (some y)
    rw [hR] at hRR ⊢
    rw [hiff] at hRR
    clear hR hiff ha hb ka kb la lb hkn hn hn'
    generalize x.kd = k at *
    generalize y.kd = k' at *
    generalize x.nn = m at *
    generalize y.nn = m' at *
    generalize x.nm = s at *
    generalize y.nm = s' at *
    generalize sameO x.ka y.ka = A at *
    generalize sameO x.kb y.kb = B at *
    rw [← hA, ← hB] at hRR
    clear hA hB
    have HA := Lib.hid ihA; clear ihA
    have HB := Lib.hid ihB; clear ihB n1
    by_cases e1 : k = k'
    · subst e1
      by_cases e2 : m = m'
      · subst e2
        by_cases e3 : s = s'
        · subst e3
          cases A with
          | true =>
            obtain rfl : R = B := by cases R <;> cases B <;> simp_all
            clear hRR
            have t3 : (s.toList == s.toList) = true := by simp
            go_enter Tryz.func23, Tryz.ntmps23
            go_wp2_with fail
            refine wp_region_gw (by kernel_rfl) (by kernel_rfl) ?_
            repeat (go_big_quiet_step (first | (with_reducible (exact gw_quiet (HA.out _ (by (repeat (first | exact Below.refl _ _ | refine Below.drew ?_ | (refine below_gw' ?_ (by first | omega | (simp [go_sem]; done) | (simp [go_sem]; omega)) _) | (refine Below.alloc ?_ (by first | omega | (simp [go_sem]; done) | (simp [go_sem]; omega)) _) | (refine Below.setCell ?_ (by first | omega | (simp [go_sem]; done) | (simp [go_sem]; omega)) _))))))) | (with_reducible (exact gw_quiet (HB.out _ (by (repeat (first | exact Below.refl _ _ | refine Below.drew ?_ | (refine below_gw' ?_ (by first | omega | (simp [go_sem]; done) | (simp [go_sem]; omega)) _) | (refine Below.alloc ?_ (by first | omega | (simp [go_sem]; done) | (simp [go_sem]; omega)) _) | (refine Below.setCell ?_ (by first | omega | (simp [go_sem]; done) | (simp [go_sem]; omega)) _)))))))))
            refine wpQuiet_nil ?_
            rintro _ ⟨p1, rfl⟩
            go_wp2_with fail
            go_ret
            exact ⟨rfl, by (repeat (first | exact Below.refl _ _ | refine Below.drew ?_ | (refine below_gw' ?_ (by first | omega | (simp [go_sem]; done) | (simp [go_sem]; omega)) _) | (refine Below.alloc ?_ (by first | omega | (simp [go_sem]; done) | (simp [go_sem]; omega)) _) | (refine Below.setCell ?_ (by first | omega | (simp [go_sem]; done) | (simp [go_sem]; omega)) _)))⟩

          | false =>
            obtain rfl : R = false := by cases R <;> simp_all
            clear hRR
            go_enter Tryz.func23, Tryz.ntmps23
            go_wp2_with fail
            refine wp_region_gw (by kernel_rfl) (by kernel_rfl) ?_
            repeat (go_big_quiet_step (first | (with_reducible (exact gw_quiet (HA.out _ (by (repeat (first | exact Below.refl _ _ | refine Below.drew ?_ | (refine below_gw' ?_ (by first | omega | (simp [go_sem]; done) | (simp [go_sem]; omega)) _) | (refine Below.alloc ?_ (by first | omega | (simp [go_sem]; done) | (simp [go_sem]; omega)) _) | (refine Below.setCell ?_ (by first | omega | (simp [go_sem]; done) | (simp [go_sem]; omega)) _))))))) | (with_reducible (exact gw_quiet (HB.out _ (by (repeat (first | exact Below.refl _ _ | refine Below.drew ?_ | (refine below_gw' ?_ (by first | omega | (simp [go_sem]; done) | (simp [go_sem]; omega)) _) | (refine Below.alloc ?_ (by first | omega | (simp [go_sem]; done) | (simp [go_sem]; omega)) _) | (refine Below.setCell ?_ (by first | omega | (simp [go_sem]; done) | (simp [go_sem]; omega)) _)))))))))
            refine wpQuiet_nil ?_
            rintro _ ⟨p1, rfl⟩
            go_wp2_with fail
            go_ret
            exact ⟨rfl, by (repeat (first | exact Below.refl _ _ | refine Below.drew ?_ | (refine below_gw' ?_ (by first | omega | (simp [go_sem]; done) | (simp [go_sem]; omega)) _) | (refine Below.alloc ?_ (by first | omega | (simp [go_sem]; done) | (simp [go_sem]; omega)) _) | (refine Below.setCell ?_ (by first | omega | (simp [go_sem]; done) | (simp [go_sem]; omega)) _)))⟩

        · obtain rfl : R = false := by cases R <;> simp_all
          have t3 : (s.toList == s'.toList) = false := by
            rw [beq_eq_false_iff_ne]
            intro h
            apply e3
            rw [ByteArray.toList_eq, ByteArray.toList_eq] at h
            exact ByteArray.ext (Array.ext' h)
          clear hRR e3
          go_enter Tryz.func23, Tryz.ntmps23
          go_wp2_with fail
          refine wp_region_gw (by kernel_rfl) (by kernel_rfl) ?_
          repeat (go_big_quiet_step (first | (with_reducible (exact gw_quiet (HA.out _ (by (repeat (first | exact Below.refl _ _ | refine Below.drew ?_ | (refine below_gw' ?_ (by first | omega | (simp [go_sem]; done) | (simp [go_sem]; omega)) _) | (refine Below.alloc ?_ (by first | omega | (simp [go_sem]; done) | (simp [go_sem]; omega)) _) | (refine Below.setCell ?_ (by first | omega | (simp [go_sem]; done) | (simp [go_sem]; omega)) _))))))) | (with_reducible (exact gw_quiet (HB.out _ (by (repeat (first | exact Below.refl _ _ | refine Below.drew ?_ | (refine below_gw' ?_ (by first | omega | (simp [go_sem]; done) | (simp [go_sem]; omega)) _) | (refine Below.alloc ?_ (by first | omega | (simp [go_sem]; done) | (simp [go_sem]; omega)) _) | (refine Below.setCell ?_ (by first | omega | (simp [go_sem]; done) | (simp [go_sem]; omega)) _)))))))))
          refine wpQuiet_nil ?_
          rintro _ ⟨p1, rfl⟩
          go_wp2_with fail
          go_ret
          exact ⟨rfl, by (repeat (first | exact Below.refl _ _ | refine Below.drew ?_ | (refine below_gw' ?_ (by first | omega | (simp [go_sem]; done) | (simp [go_sem]; omega)) _) | (refine Below.alloc ?_ (by first | omega | (simp [go_sem]; done) | (simp [go_sem]; omega)) _) | (refine Below.setCell ?_ (by first | omega | (simp [go_sem]; done) | (simp [go_sem]; omega)) _)))⟩

      · obtain rfl : R = false := by cases R <;> simp_all
        have t2 : (m == m') = false := by simpa using e2
        clear hRR e2
        go_enter Tryz.func23, Tryz.ntmps23
        go_wp2_with fail
        refine wp_region_gw (by kernel_rfl) (by kernel_rfl) ?_
        repeat (go_big_quiet_step (first | (with_reducible (exact gw_quiet (HA.out _ (by (repeat (first | exact Below.refl _ _ | refine Below.drew ?_ | (refine below_gw' ?_ (by first | omega | (simp [go_sem]; done) | (simp [go_sem]; omega)) _) | (refine Below.alloc ?_ (by first | omega | (simp [go_sem]; done) | (simp [go_sem]; omega)) _) | (refine Below.setCell ?_ (by first | omega | (simp [go_sem]; done) | (simp [go_sem]; omega)) _))))))) | (with_reducible (exact gw_quiet (HB.out _ (by (repeat (first | exact Below.refl _ _ | refine Below.drew ?_ | (refine below_gw' ?_ (by first | omega | (simp [go_sem]; done) | (simp [go_sem]; omega)) _) | (refine Below.alloc ?_ (by first | omega | (simp [go_sem]; done) | (simp [go_sem]; omega)) _) | (refine Below.setCell ?_ (by first | omega | (simp [go_sem]; done) | (simp [go_sem]; omega)) _)))))))))
        refine wpQuiet_nil ?_
        rintro _ ⟨p1, rfl⟩
        go_wp2_with fail
        go_ret
        exact ⟨rfl, by (repeat (first | exact Below.refl _ _ | refine Below.drew ?_ | (refine below_gw' ?_ (by first | omega | (simp [go_sem]; done) | (simp [go_sem]; omega)) _) | (refine Below.alloc ?_ (by first | omega | (simp [go_sem]; done) | (simp [go_sem]; omega)) _) | (refine Below.setCell ?_ (by first | omega | (simp [go_sem]; done) | (simp [go_sem]; omega)) _)))⟩

    · obtain rfl : R = false := by cases R <;> simp_all
      have t1 : (k == k') = false := by simpa using e1
      clear hRR e1
      go_enter Tryz.func23, Tryz.ntmps23
      go_wp2_with fail
      refine wp_region_gw (by kernel_rfl) (by kernel_rfl) ?_
      repeat (go_big_quiet_step (first | (with_reducible (exact gw_quiet (HA.out _ (by (repeat (first | exact Below.refl _ _ | refine Below.drew ?_ | (refine below_gw' ?_ (by first | omega | (simp [go_sem]; done) | (simp [go_sem]; omega)) _) | (refine Below.alloc ?_ (by first | omega | (simp [go_sem]; done) | (simp [go_sem]; omega)) _) | (refine Below.setCell ?_ (by first | omega | (simp [go_sem]; done) | (simp [go_sem]; omega)) _))))))) | (with_reducible (exact gw_quiet (HB.out _ (by (repeat (first | exact Below.refl _ _ | refine Below.drew ?_ | (refine below_gw' ?_ (by first | omega | (simp [go_sem]; done) | (simp [go_sem]; omega)) _) | (refine Below.alloc ?_ (by first | omega | (simp [go_sem]; done) | (simp [go_sem]; omega)) _) | (refine Below.setCell ?_ (by first | omega | (simp [go_sem]; done) | (simp [go_sem]; omega)) _)))))))))
      refine wpQuiet_nil ?_
      rintro _ ⟨p1, rfl⟩
      go_wp2_with fail
      go_ret
      exact ⟨rfl, by (repeat (first | exact Below.refl _ _ | refine Below.drew ?_ | (refine below_gw' ?_ (by first | omega | (simp [go_sem]; done) | (simp [go_sem]; omega)) _) | (refine Below.alloc ?_ (by first | omega | (simp [go_sem]; done) | (simp [go_sem]; omega)) _) | (refine Below.setCell ?_ (by first | omega | (simp [go_sem]; done) | (simp [go_sem]; omega)) _)))⟩

end Go.Proofs.YtpkbonfbehhbdaaGreatDoor

/- The reference's Level of an operator. -/
namespace Go.Proofs.YtpkbonfbehhbdaaGreatDoor
open Go.RowKit Go.Sort

set_option maxHeartbeats 400000 in
set_option maxRecDepth 100000 in
theorem rlevel_any (s : ByteArray) (w : World) :
    Calls Tryz.prog 25 #[.string s] w fun e w' => e = .returned (.int .i64 (lvlS s : Nat)) ∧ w = w' := by
  obtain ⟨R, hR⟩ : ∃ R, lvlS s = R := ⟨_, rfl⟩
  rw [hR]
  have HR := Lib.hid hR; clear hR
  go_enter Tryz.func25, Tryz.ntmps25
  go_wp2_with fail
  all_goals
    go_ret
    refine ⟨?_, rfl⟩
    have h := HR.out
    clear HR
    try simp only [beq_iff_eq, beq_eq_false_iff_ne, ne_eq] at *
    first
      | (rw [lvlS, show s.toList = [124] from by assumption] at h; subst h; rfl)
      | (rw [lvlS, show s.toList = [94] from by assumption] at h; subst h; rfl)
      | (rw [lvlS, show s.toList = [38] from by assumption] at h; subst h; rfl)
      | (rw [lvlS, show s.toList = [60, 60] from by assumption] at h; subst h; rfl)
      | (rw [lvlS, show s.toList = [62, 62] from by assumption] at h; subst h; rfl)
      | (rw [lvlS, show s.toList = [43] from by assumption] at h; subst h; rfl)
      | (rw [lvlS, show s.toList = [45] from by assumption] at h; subst h; rfl)
      | (rw [lvlS, show s.toList = [42] from by assumption] at h; subst h; rfl)
      | (rw [lvlS, show s.toList = [47] from by assumption] at h; subst h; rfl)
      | (rw [lvlS, show s.toList = [77, 79, 68] from by assumption] at h; subst h; rfl)
      | (rw [lvlS, lvlL, if_neg (by assumption), if_neg (by assumption), if_neg (by assumption), if_neg (by rintro (h | h) <;> simp_all), if_neg (by rintro (h | h) <;> simp_all), if_neg (by rintro (h | h | h) <;> simp_all)] at h; subst h; rfl)
end Go.Proofs.YtpkbonfbehhbdaaGreatDoor

/- Maps with string keys, as lists of pairs. -/
namespace Go.Proofs.YtpkbonfbehhbdaaGreatDoor
open Go.RowKit Go.Sort

open Go.ChangeMaps
theorem bbeq (s t : ByteArray) : (s == t) = decide (s = t) := by
  have e : (s == t) = (s.data == t.data) := by cases s; cases t; rfl
  rw [e, Bool.eq_iff_iff, beq_iff_eq, decide_eq_true_iff]
  exact ⟨fun h => ByteArray.ext h, fun h => by rw [h]⟩
theorem bb_self (s : ByteArray) : (s == s) = true := by rw [bbeq]; simp
theorem bb_ne {s t : ByteArray} (h : s ≠ t) : (s == t) = false := by rw [bbeq]; simpa using h
/-- What a list of pairs holds at a key. -/
def sget : List (ByteArray × Value) → ByteArray → Option Value
  | [], _ => none
  | x :: l, s => if s == x.1 then some x.2 else sget l s
/-- The list with a pair written. -/
def sput : List (ByteArray × Value) → ByteArray → Value → List (ByteArray × Value)
  | [], s, v => [(s, v)]
  | x :: l, s, v => if s == x.1 then (s, v) :: l else x :: sput l s v
theorem sget_sput : ∀ (l : List (ByteArray × Value)) (s t : ByteArray) (v : Value), sget (sput l s v) t = if t == s then some v else sget l t
  | [], s, t, v => by simp [sput, sget]
  | x :: l, s, t, v => by
    by_cases h : s = x.1
    · subst h
      simp only [sput, bb_self, if_true, sget]
      split <;> rfl
    · have hb : (s == x.1) = false := bb_ne h
      simp only [sput, hb, sget]
      simp only [Bool.false_eq_true, if_false, sget]
      rw [sget_sput l s t v]
      by_cases ht : t = s
      · subst ht; simp [hb, bb_self]
      · simp [bb_ne ht]
/-- An entry's key and value. -/
abbrev ekv (e : MapEntry) : Value × Value := (e.key, e.val)
theorem sput_len : ∀ (l : List (ByteArray × Value)) (s : ByteArray) (v : Value), (sput l s v).length ≤ l.length + 1
  | [], s, v => by simp [sput]
  | x :: l, s, v => by
    have := sput_len l s v
    simp only [sput]
    split <;> simp <;> omega
/-- A map with string keys in block b. -/
def SMap (w : World) (b : Nat) (l : List (ByteArray × Value)) : Prop := ∃ es c, w.heap[b]? = some (.map es c) ∧ es.toList.map ekv = l.map (fun x => (Value.string x.1, x.2))
theorem SMap.lt {w : World} {b : Nat} {l : List (ByteArray × Value)} (h : SMap w b l) : b < w.heap.size := by
  obtain ⟨es, c, h, _⟩ := h; exact (Array.getElem?_eq_some_iff.1 h).1
theorem SMap.below {w w' : World} {b : Nat} {l : List (ByteArray × Value)} (h : SMap w b l) (hb : Below w.heap.size w w') : SMap w' b l := by
  have hlt := h.lt
  obtain ⟨es, c, h1, h2⟩ := h
  exact ⟨es, c, by rw [hb.block b hlt]; exact h1, h2⟩
theorem SMap.block {w w' : World} {b : Nat} {l : List (ByteArray × Value)} (h : SMap w b l) (hb : w'.heap[b]? = w.heap[b]?) : SMap w' b l := by
  obtain ⟨es, c, h1, h2⟩ := h
  exact ⟨es, c, by rw [hb]; exact h1, h2⟩
theorem SMap.gw {w : World} {b : Nat} {l : List (ByteArray × Value)} (h : SMap w b l) (p : Regrown) : SMap (gw w p) b l := h.below (below_gw w p)
theorem SMap.alloc {w : World} {b : Nat} {l : List (ByteArray × Value)} (h : SMap w b l) (o : Obj) : SMap (w.alloc o) b l := h.below ((Below.refl _ _).alloc (Nat.le_refl _) o)
theorem SMap.setCell {w : World} {b : Nat} {l : List (ByteArray × Value)} (h : SMap w b l) (g j : Nat) (v : Value) (hne : b ≠ g) : SMap (w.setCell ⟨g, j, none⟩ v) b l := h.block (Below.heap_setCell w ⟨g, j, none⟩ v b hne)
theorem sfind (s : ByteArray) : ∀ (es : List MapEntry) (l : List (ByteArray × Value)) (i : Nat), es.map ekv = l.map (fun x => (Value.string x.1, x.2)) →
    (sget l s = none → Instr.findNow .string (.string s) es i = some none ∧ ∀ v c, (es ++ [MapEntry.mk (.string s) v c]).map ekv = (sput l s v).map (fun x => (Value.string x.1, x.2))) ∧
    (∀ v, sget l s = some v → ∃ j, Instr.findNow .string (.string s) es i = some (some (i + j, v)) ∧ (es[j]?).map (·.key) = some (.string s) ∧ ∀ v', (es.modify j fun e : MapEntry => { e with key := .string s, val := v' }).map ekv = (sput l s v').map (fun x => (Value.string x.1, x.2)))
  | [], [], i, _ => ⟨fun _ => ⟨rfl, fun v c => rfl⟩, fun v h => by cases h⟩
  | [], x :: l, i, h => by simp at h
  | e :: es, [], i, h => by simp at h
  | e :: es, x :: l, i, h => by
    simp only [List.map_cons, List.cons.injEq, Prod.mk.injEq] at h
    obtain ⟨⟨h1, h2⟩, h3⟩ := h
    obtain ⟨ek, ev, eb⟩ := e
    simp only at h1 h2
    subst h1 h2
    have ih := sfind s es l (i + 1) h3
    by_cases hx : s = x.1
    · have hb : (s == x.1) = true := by rw [hx]; exact bb_self _
      refine ⟨fun h => ?_, fun v h => ⟨0, ?_, ?_, fun v' => ?_⟩⟩
      · simp [sget, hb] at h
      · simp only [sget, hb, if_true, Option.some.injEq] at h
        subst h
        simp [Instr.findNow, Instr.sameNow, hb]
      · subst hx; rfl
      · simp only [sput, hb, if_true, List.map_cons, ← h3]
        simp
    · have hb : (s == x.1) = false := bb_ne hx
      refine ⟨fun h => ?_, fun v h => ?_⟩
      · simp only [sget, hb, Bool.false_eq_true, if_false] at h
        obtain ⟨e1, e2⟩ := ih.1 h
        refine ⟨?_, fun v c => ?_⟩
        · simp only [Instr.findNow, Instr.sameNow, hb]; exact e1
        · simp only [sput, hb, Bool.false_eq_true, if_false, List.map_cons, List.cons_append, e2 v c]
      · simp only [sget, hb, Bool.false_eq_true, if_false] at h
        obtain ⟨j, e1, e2, e3⟩ := ih.2 v h
        refine ⟨j + 1, ?_, ?_, fun v' => ?_⟩
        · simp only [Instr.findNow, Instr.sameNow, hb]; rw [e1]; congr 3; omega
        · simpa using e2
        · simp only [sput, hb, Bool.false_eq_true, if_false, List.map_cons]
          rw [← e3 v']
          simp
section
variable {P : Program} {T K E : TypeId}
theorem run_sget (ht : P.underlying T = some (.map K E)) (hk : P.underlying K = some .string) {z : Value} (hz : ∀ w, (zeroValue E).run P w = .ok z w) {w : World} {b : Nat} {l : List (ByteArray × Value)} (h : SMap w b l) (s : ByteArray) (ok : Bool) :
    (Instr.lookup T (.map (some b)) (.string s) ok).run P w = .ok (if ok then .tuple #[(sget l s).getD z, .bool (sget l s).isSome] else (sget l s).getD z) w := by
  obtain ⟨es, c, hb, he⟩ := h
  have hkey : ∀ em, (Instr.checkKey em 10000 K (.string s)).run P w = .ok () w := fun em => MapKept.run_checkKey (k := .string s) hk (by simp [MapKept.IsKey]) em 9999
  have hf := sfind s es.toList l 0 he
  rcases hg : sget l s with _ | v
  · have hfind : (Instr.findKey K (.string s) es.toList).run P w = .ok none w := by simp [Instr.findKey, run_underlying hk, (hf.1 hg).1]
    cases ok <;> simp [Instr.lookup, run_underlying ht, MapKept.run_getObj_map hb, hkey, hfind, Result.andThen, hz]
  · obtain ⟨j, e1, _⟩ := hf.2 v hg
    have hfind : (Instr.findKey K (.string s) es.toList).run P w = .ok (some (0 + j, v)) w := by simp only [Instr.findKey]; simp [run_underlying hk, e1]
    cases ok <;> simp [Instr.lookup, run_underlying ht, MapKept.run_getObj_map hb, hkey, hfind, Result.andThen]
theorem run_snil (ht : P.underlying T = some (.map K E)) (hk : P.underlying K = some .string) {z : Value} (hz : ∀ w, (zeroValue E).run P w = .ok z w) (w : World) (s : ByteArray) (ok : Bool) :
    (Instr.lookup T (.map none) (.string s) ok).run P w = .ok (if ok then .tuple #[z, .bool false] else z) w := by
  have hkey : ∀ em, (Instr.checkKey em 10000 K (.string s)).run P w = .ok () w := fun em => MapKept.run_checkKey (k := .string s) hk (by simp [MapKept.IsKey]) em 9999
  have hfind : (Instr.findKey K (.string s) []).run P w = .ok none w := by simp [Instr.findKey, run_underlying hk, Instr.findNow]
  cases ok <;> simp [Instr.lookup, run_underlying ht, hkey, hfind, Result.andThen, hz]
theorem run_sput (ht : P.underlying T = some (.map K E)) (hk : P.underlying K = some .string) {w : World} {b : Nat} {l : List (ByteArray × Value)} (h : SMap w b l) (s : ByteArray) (v : Value) :
    ∃ o, (Instr.mapUpdate T (.map (some b)) (.string s) v).run P w = .ok () (setBlock w b o) ∧ SMap (setBlock w b o) b (sput l s v) := by
  have hlt := h.lt
  obtain ⟨es, c, hb, he⟩ := h
  have hkey : ∀ em, (Instr.checkKey em 10000 K (.string s)).run P w = .ok () w := fun em => MapKept.run_checkKey (k := .string s) hk (by simp [MapKept.IsKey]) em 9999
  have hf := sfind s es.toList l 0 he
  rcases hg : sget l s with _ | u
  · have hfind : (Instr.findKey K (.string s) es.toList).run P w = .ok none w := by simp [Instr.findKey, run_underlying hk, (hf.1 hg).1]
    refine ⟨.map (es.push ⟨.string s, v, c⟩) (c + 1), ?_, _, _, setBlock_at _ _ _ hlt, ?_⟩
    · simp [Instr.mapUpdate, run_underlying ht, MapKept.run_getObj_map hb, hkey, hfind, MapKept.run_setObj_map _ hb, Result.andThen]
      rfl
    · rw [Array.toList_push]; exact (hf.1 hg).2 v c
  · obtain ⟨j, e1, e2, e3⟩ := hf.2 u hg
    rw [Nat.zero_add] at e1
    have hfind : (Instr.findKey K (.string s) es.toList).run P w = .ok (some (j, u)) w := by simp only [Instr.findKey]; simp [run_underlying hk, e1]
    refine ⟨.map (es.modify j fun e : MapEntry => { e with key := .string s, val := v }) c, ?_, _, _, setBlock_at _ _ _ hlt, ?_⟩
    · have hes : (es[j]?).map (·.key) = some (.string s) := by rw [← e2]; simp
      have hst : (Instr.keyThatStays (((es[j]?).map (·.key)).getD (.string s)) (.string s)).run P w = .ok (.string s) w := by
        rw [hes]
        simp [Instr.keyThatStays, Instr.sameBits, bb_self]
      simp [Instr.mapUpdate, run_underlying ht, MapKept.run_getObj_map hb, hkey, hfind, hst, MapKept.run_setObj_map _ hb, Result.andThen]
      rfl
    · rw [← e3 v]; simp
end
end Go.Proofs.YtpkbonfbehhbdaaGreatDoor

/- Values in the range, in the reference. -/
namespace Go.Proofs.YtpkbonfbehhbdaaGreatDoor
open Go.RowKit Go.Sort

/-- A number that is in the range, and the code. -/
def rangedP (n : Int) : Int × Int := if n < -2147483648 ∨ 2147483647 < n then (0, 2) else (n, 0)
set_option maxHeartbeats 400000 in
theorem rranged_any (n : Int) (w : World) :
    Calls Tryz.prog 41 #[.int .i64 n] w fun e w' => e = .returned (.tuple #[.int .i64 (rangedP n).1, .int .i64 (rangedP n).2]) ∧ w = w' := by
  by_cases h1 : n < -2147483648
  · have hr : rangedP n = (0, 2) := by unfold rangedP; rw [if_pos (.inl h1)]
    rw [hr]
    go_enter Tryz.func41, Tryz.ntmps41
    go_wp2_with fail
    exact bodyPost_ret (v := .tuple #[.int .i64 0, .int .i64 2]) (by simp [results, Tryz.results41, go_sem]) rfl ⟨rfl, rfl⟩
  · by_cases h2 : 2147483647 < n
    · have hr : rangedP n = (0, 2) := by unfold rangedP; rw [if_pos (.inr h2)]
      rw [hr]
      go_enter Tryz.func41, Tryz.ntmps41
      go_wp2_with fail
      exact bodyPost_ret (v := .tuple #[.int .i64 0, .int .i64 2]) (by simp [results, Tryz.results41, go_sem]) rfl ⟨rfl, rfl⟩
    · have hr : rangedP n = (n, 0) := by unfold rangedP; rw [if_neg (by omega)]
      rw [hr]
      go_enter Tryz.func41, Tryz.ntmps41
      go_wp2_with fail
      exact bodyPost_ret (v := .tuple #[.int .i64 n, .int .i64 0]) (by simp [results, Tryz.results41, go_sem]) rfl ⟨rfl, rfl⟩
end Go.Proofs.YtpkbonfbehhbdaaGreatDoor

/- What the binary operators give. No program in sight. -/
namespace Go.Proofs.YtpkbonfbehhbdaaGreatDoor
open Go.RowKit Go.Sort

/-- What the i-th operator's function gives. -/
def opFun : Nat → Int → Int → Int
  | 0, a, b => bits .or .i64 a b
  | 1, a, b => bits .xor .i64 a b
  | 2, a, b => bits .and .i64 a b
  | 3, a, b => a * 2 ^ b.toNat
  | 4, a, b => a / 2 ^ b.toNat
  | 5, a, b => a + b
  | 6, a, b => a - b
  | 7, a, b => a * b
  | 8, a, b => a.tdiv b
  | _, a, b => a.tmod b
/-- What the i-th operator gives: the value and the code. -/
def opRaw (i : Nat) (a b : Int) : Int × Int :=
  if (i = 3 ∨ i = 4) ∧ (b < 0 ∨ 31 < b) then (0, 2) else if (i = 8 ∨ i = 9) ∧ b = 0 then (0, 18) else (opFun i a b, 0)
def rangedC (x : Int × Int) : Int × Int := if x.2 = 0 then rangedP x.1 else x
/-- What a binary operator gives: the value and the code. -/
def opEval (op : ByteArray) (a b : Int) : Int × Int := match opIdx op with | some i => rangedC (opRaw i a b) | none => (0, 0)
/-- What a unary operator gives. -/
def unEval (op : ByteArray) (a : Int) : Int := if op.toList = [45] then -a else if op.toList = [126] then -a - 1 else a
theorem pow31 (b : Int) (h0 : 0 ≤ b) (h1 : b ≤ 31) : (1 : Int) ≤ 2 ^ b.toNat ∧ (2 : Int) ^ b.toNat ≤ 2147483648 := by
  have h : (2 : Nat) ^ b.toNat ≤ 2 ^ 31 := Nat.pow_le_pow_right (by omega) (by omega)
  have h2 : 1 ≤ (2 : Nat) ^ b.toNat := Nat.one_le_two_pow
  have e : ((2 : Nat) ^ b.toNat : Nat) = ((2 : Int) ^ b.toNat) := by simp
  omega
theorem mul_in {a p : Int} (h1 : -2147483648 ≤ a) (h2 : a ≤ 2147483647) (h3 : -2147483648 ≤ p) (h4 : p ≤ 2147483648) : -4611686018427387904 ≤ a * p ∧ a * p ≤ 4611686018427387904 := by
  have h : (a * p).natAbs ≤ 2147483648 * 2147483648 := by rw [Int.natAbs_mul]; exact Nat.mul_le_mul (by omega) (by omega)
  omega
theorem tdiv_in {a b : Int} (h1 : -2147483648 ≤ a) (h2 : a ≤ 2147483647) : -2147483648 ≤ a.tdiv b ∧ a.tdiv b ≤ 2147483648 := by
  have h : (a.tdiv b).natAbs ≤ a.natAbs := by rw [Int.natAbs_tdiv]; exact Nat.div_le_self _ _
  omega
/-- Every bit turned. -/
theorem xor_m1 (x : Int) (h1 : -2147483648 ≤ x) (h2 : x ≤ 2147483647) : bits .xor .i64 (-1) x = -x - 1 := by
  unfold bits
  have e : BitVec.ofInt IntKind.i64.bits (-1) ^^^ BitVec.ofInt IntKind.i64.bits x = ~~~ BitVec.ofInt IntKind.i64.bits x := by
    show BitVec.ofInt 64 (-1) ^^^ BitVec.ofInt 64 x = ~~~ BitVec.ofInt 64 x
    rw [show BitVec.ofInt 64 (-1) = BitVec.allOnes 64 from rfl, BitVec.allOnes_xor]
  simp only [e]
  have e2 : (~~~ BitVec.ofInt IntKind.i64.bits x).toNat = 2 ^ 64 - 1 - (x % ((2 : Nat) ^ 64 : Nat)).toNat := by
    show (~~~ BitVec.ofInt 64 x).toNat = _
    rw [BitVec.toNat_not, BitVec.toNat_ofInt]
  rw [e2]
  rw [IntKind.wrap_i64]
  omega
end Go.Proofs.YtpkbonfbehhbdaaGreatDoor

/- Expressions: their values; what the parser's results satisfy. No program in sight. -/
namespace Go.Proofs.YtpkbonfbehhbdaaGreatDoor
open Go.RowKit Go.Sort

/-- The value of an expression and the code. -/
def Ex.eval (env : ByteArray → Option Int) (here : Int) : Ex → Int × Int
  | .num n => (n, 0)
  | .sym s => match env s with | some n => (n, 0) | none => (0, 13)
  | .here => (here, 0)
  | .un op a => if (a.eval env here).2 = 0 then rangedP (unEval op (a.eval env here).1) else (0, (a.eval env here).2)
  | .bin op a b => if (a.eval env here).2 = 0 then (if (b.eval env here).2 = 0 then opEval op (a.eval env here).1 (b.eval env here).1 else (0, (b.eval env here).2)) else (0, (a.eval env here).2)
/-- The operators of an expression are operators, its numbers are in the range. -/
def Ex.good : Ex → Prop
  | .num n => 0 ≤ n ∧ n ≤ 65535
  | .sym s => s.size ≤ 1000000
  | .here => True
  | .un op a => (op.toList = [45] ∨ op.toList = [43] ∨ op.toList = [126]) ∧ a.good
  | .bin op a b => lvlS op ≠ 0 ∧ a.good ∧ b.good
/-- Tokens with numbers in the range, and short. -/
def TokOk (l : List Tok) : Prop := ∀ t ∈ l, t.text.size ≤ 1000000 ∧ 0 ≤ t.n ∧ t.n ≤ 65535
theorem TokOk.small {l : List Tok} (h : TokOk l) : Small l := fun t ht => (h t ht).1
theorem TokOk.cons {t : Tok} {l : List Tok} (h : TokOk (t :: l)) : (t.text.size ≤ 1000000 ∧ 0 ≤ t.n ∧ t.n ≤ 65535) ∧ TokOk l := ⟨h t List.mem_cons_self, fun x hx => h x (List.mem_cons_of_mem _ hx)⟩
def stG : St Tok Ex → Prop | .U l => TokOk l | .B _ l => TokOk l | .L _ a l => a.good ∧ TokOk l
theorem atom_good {t : Tok} {e : Ex} (hs : t.text.size ≤ 1000000 ∧ 0 ≤ t.n ∧ t.n ≤ 65535) (h : tatom t = some e) : e.good := by
  unfold tatom at h
  repeat' split at h
  all_goals (first | cases h | skip)
  · trivial
  · exact hs.1
  · exact hs.2
  · have := (t.text.toList.headD 0).toNat_lt
    refine ⟨by omega, by omega⟩
theorem P.good {s : St Tok Ex} {res : Option (Ex × List Tok)} (h : P exLang s res) : stG s → ∀ x r, res = some (x, r) → x.good ∧ TokOk r := by
  induction h with
  | binN lv l h ih => intro _ x r e; cases e
  | bin lv l r a res h1 h2 ih1 ih2 => intro hs x r' e; exact ih2 (ih1 hs a r rfl) x r' e
  | stop lv a r h => intro hs x r' e; cases e; exact hs
  | step lv a b t r r' res h0 h1 h2 h3 ih1 ih2 =>
    intro hs x r2 e
    have a1 := ih1 hs.2.cons.2 b r' rfl
    exact ih2 ⟨⟨h0, hs.1, a1.1⟩, a1.2⟩ x r2 e
  | stepN lv a t r h0 h1 h2 ih => intro _ x r e; cases e
  | nil => intro _ x r e; cases e
  | un t l res h0 h1 ih =>
    intro hs x r e
    rcases res with _ | ⟨y, r'⟩
    · cases e
    · cases e
      have := ih (TokOk.cons hs).2 y r' rfl
      refine ⟨⟨?_, this.1⟩, this.2⟩
      have hu : tU t = true := h0
      simpa [tU, or_assoc] using hu
  | par t t' l r e h0 h1 h2 h3 ih =>
    intro hs x r2 he
    cases he
    have := ih (TokOk.cons hs).2 e (t' :: r) rfl
    exact ⟨this.1, this.2.cons.2⟩
  | parN t l res h0 h1 h2 h3 ih => intro _ x r e; cases e
  | atom t l h0 h1 =>
    intro hs x r e
    have he : (tatom t).map (fun e => (e, l)) = some (x, r) := e
    rcases ht : tatom t with _ | y
    · rw [ht] at he; cases he
    · rw [ht] at he
      cases he
      exact ⟨atom_good (TokOk.cons hs).1 ht, (TokOk.cons hs).2⟩

theorem rangedP_in (n : Int) : -2147483648 ≤ (rangedP n).1 ∧ (rangedP n).1 ≤ 2147483647 := by
  unfold rangedP
  split
  · decide
  · dsimp only; omega
theorem opRaw_code (i : Nat) (a b : Int) : (opRaw i a b).2 = 0 ∨ (opRaw i a b).1 = 0 := by
  unfold opRaw
  repeat' split
  all_goals first | exact .inl rfl | exact .inr rfl
theorem opEval_in (op : ByteArray) (a b : Int) : -2147483648 ≤ (opEval op a b).1 ∧ (opEval op a b).1 ≤ 2147483647 := by
  unfold opEval
  split
  · rename_i i h
    unfold rangedC
    split
    · exact rangedP_in _
    · rename_i hc
      have := (opRaw_code i a b).resolve_left hc
      omega
  · decide
theorem eval_in (env : ByteArray → Option Int) (here : Int) (he : ∀ s n, env s = some n → -2147483648 ≤ n ∧ n ≤ 2147483647) (hh : -2147483648 ≤ here ∧ here ≤ 2147483647) : ∀ x : Ex, x.good → -2147483648 ≤ (x.eval env here).1 ∧ (x.eval env here).1 ≤ 2147483647
  | .num n, h => by have h : 0 ≤ n ∧ n ≤ 65535 := h; show -2147483648 ≤ n ∧ n ≤ 2147483647; omega
  | .sym s, _ => by
    unfold Ex.eval
    split
    · exact he _ _ ‹_›
    · dsimp only; omega
  | .here, _ => hh
  | .un op a, h => by
    unfold Ex.eval
    split
    · exact rangedP_in _
    · dsimp only; omega
  | .bin op a b, h => by
    unfold Ex.eval
    repeat' split
    all_goals first | exact opEval_in _ _ _ | (dsimp only; omega)
end Go.Proofs.YtpkbonfbehhbdaaGreatDoor

/- num.Fits at one number. -/
namespace Go.Proofs.YtpkbonfbehhbdaaGreatDoor
open Go.RowKit

set_option maxHeartbeats 400000 in
theorem fits1 (lo hi n : Int) (b : Nat) (w : World) (hc : w.cell? ⟨b, 0, none⟩ = some (.int .i64 n)) :
    Calls Tryz.prog 61 #[.int .i64 lo, .int .i64 hi, .slice (some ⟨b, 0, none⟩) 1 1] w fun e w' => e = .returned (.bool (decide (lo ≤ n) && decide (n ≤ hi))) ∧ w = w' := by
  by_cases h1 : n < lo
  · go_enter Tryz.func61, Tryz.ntmps61
    go_wp2
    refine wp_loop_rounds 2 ?_
    rw [rounds_succ]
    go_wp2
    go_ret
    exact ⟨by simp; omega, rfl⟩
  · by_cases h2 : hi < n
    · go_enter Tryz.func61, Tryz.ntmps61
      go_wp2
      refine wp_loop_rounds 2 ?_
      rw [rounds_succ]
      go_wp2
      go_ret
      exact ⟨by simp; omega, rfl⟩
    · go_enter Tryz.func61, Tryz.ntmps61
      go_wp2
      refine wp_loop_rounds 2 ?_
      rw [rounds_succ]
      go_wp2
      rw [rounds_succ]
      go_wp2
      go_ret
      exact ⟨by simp; omega, rfl⟩
end Go.Proofs.YtpkbonfbehhbdaaGreatDoor
