/- Joined texts: Next16. -/
import Derived.Test.YtnjpfhihbjihbaaGreatDoorS05
import Derived.Test.YtnjpfhihbjihbaaGreatDoorS21
import Derived.Test.YtnjpfhihbjihbaaGreatDoorS27
import Derived.Test.YtnjpfhihbjihbaaGreatDoorSX1
/- The reference's lexer: the token at an offset. (Written by wip/gen_next16.py.) -/
namespace Go.Proofs.YtnjpfhihbjihbaaGreatDoor
open Go.RowKit Go.Sort

/-- A token as a value. -/
abbrev tokV (t : Tok) : Value := .agg #[.int .i64 t.kind, .string t.text, .int .i64 t.n, .int .i64 t.off]
/-- What a look for a token hands back. -/
def nextR (i : Nat) (x : Except Int (Tok × Nat)) : Tok × Int × Int := match x with | .ok y => (y.1, y.2, 0) | .error e => (⟨0, ⟨#[]⟩, 0, i⟩, 0, e)

set_option maxHeartbeats 4000000 in
set_option maxRecDepth 100000 in
theorem next16_any (s : ByteArray) (i : Nat) (w : World) (hi : i < s.size) (hs : s.size ≤ 1000000) :
    Calls Tryz.prog 62 #[.string s, .int .i64 i] w fun e w' => e = .returned (.tuple #[tokV (nextR i (nextP s i)).1, .int .i64 (nextR i (nextP s i)).2.1, .int .i64 (nextR i (nextP s i)).2.2]) ∧ Below w.heap.size w w' := by
  obtain ⟨R, hR⟩ : ∃ R, nextR i (nextP s i) = R := ⟨_, rfl⟩
  rw [hR]
  have hi0 : (0 : Int) ≤ (i : Int) := by omega
  have hi1 : (i : Int) < (s.size : Int) := by omega
  obtain ⟨W, hW⟩ : ∃ W, wordEnd s i = W := ⟨_, rfl⟩
  obtain ⟨m, hm⟩ : ∃ m, runEnd s (i + 1) = m := ⟨_, rfl⟩
  obtain ⟨d, hd⟩ : ∃ d, isDig s[i] = d := ⟨_, rfl⟩
  obtain ⟨c, hc⟩ : ∃ c : Int, (s[i].toNat : Int) = c := ⟨_, rfl⟩
  have hc8 : ∀ k : UInt8, bat s i = k ↔ c = (k.toNat : Int) := fun k => by
    rw [← bat_get s i hi, ← hc, ← UInt8.toNat_inj]; omega
  have hw := fun w => word16_any s i w (by omega) hs
  have hrun := fun w => run16_any s (i + 1) w (by omega) hs
  have hdig := fun w => digit16_any s[i] w
  have hm1 := runEnd_ge s (i + 1)
  have hm2 := runEnd_le s (i + 1) (by omega)
  have hw2 := wordEnd_le s i (by omega)
  have hpar := fun w => parse01_any (sub s i m) w (by unfold sub; rw [ByteArray.size_extract]; omega)
  have hnum : isNumAt s i = (d || decide (c = 37) || (decide (c = 36) && decide (i + 1 < m))) := by
    unfold isNumAt
    rw [← bat_get s i hi, hd, hm]
    have e : ∀ k : UInt8, (s[i] == k) = decide (c = (k.toNat : Int)) := fun k => by
      rw [bat_get s i hi, Bool.eq_iff_iff, beq_iff_eq, decide_eq_true_iff]; exact hc8 k
    rw [e 37, e 36]; rfl
  rw [hW] at hw2
  rw [hm] at hm1 hm2
  simp only [hW] at hw
  simp only [hd, hc] at hdig
  have hrun' : ∀ w, Calls Tryz.prog 92 #[.string s, .int .i64 ((i : Int) + 1)] w fun e w' => e = .returned (.int .i64 (m : Nat)) ∧ w = w' := fun w => by have h := hrun w; rw [hm] at h; exact h
  have hm1' : (i : Int) + 1 ≤ (m : Int) := by omega
  have hm2' : (m : Int) ≤ (s.size : Int) := by omega
  have hw2' : (W : Int) ≤ (s.size : Int) := by omega
  have hun := hR
  unfold nextP at hun
  rw [hW, hm, hnum] at hun
  have hq34 : (bat s i = 34 ∨ bat s i = 39) ↔ (c = 34 ∨ c = 39) := by rw [hc8, hc8]; rfl
  simp only [hq34] at hun
  clear hrun hR hnum hW hm hd
  have HRUN := Lib.hid hrun'; clear hrun'
  have HW := Lib.hid hw; clear hw
  have HDIG := Lib.hid hdig; clear hdig
  have HPAR := Lib.hid hpar; clear hpar

  by_cases hA : i < W
  · have hA' : (i : Int) < (W : Int) := by omega
    rw [if_pos hA] at hun
    have HUN := Lib.hid hun; clear hun hq34 hc8
    go_enter Tryz.func62, Tryz.ntmps62
    go_wp2_with fail
    refine (HW.out _).mono ?_
    rintro e w1 ⟨rfl, hb⟩
    obtain ⟨p1, rfl⟩ := gw_of_below hb
    clear hb
    go_wp2_with fail
    rw [← HUN.out]
    exact bodyPost_ret (v := .tuple #[tokV ⟨1, sub s i W, 0, (i : Int)⟩, .int .i64 (W : Nat), .int .i64 0]) (by simp [results, Tryz.results62, go_sem, *]) rfl ⟨rfl, by (repeat (first | exact Below.refl _ _ | refine Below.drew ?_ | (refine below_gw' ?_ (by first | omega | (simp [go_sem]; done) | (simp [go_sem]; omega)) _) | (refine Below.alloc ?_ (by first | omega | (simp [go_sem]; done) | (simp [go_sem]; omega)) _) | (refine Below.setCell ?_ (by first | omega | (simp [go_sem]; done) | (simp [go_sem]; omega)) _)))⟩
  have hA' : ¬ (i : Int) < (W : Int) := by omega
  rw [if_neg hA] at hun
  by_cases hd1 : d = true
  · subst hd1
    have hN : (true || decide (c = 37) || (decide (c = 36) && decide (i + 1 < m))) = true := rfl
    rw [if_pos hN] at hun
    clear hN
    have hRr : ∀ o : Option Nat, (o = none ∧ dR o = (0, false)) ∨ ∃ n, o = some n ∧ dR o = ((n : Int), true) := fun o => by cases o with
      | none => exact .inl ⟨rfl, rfl⟩
      | some n => exact .inr ⟨n, rfl, rfl⟩
    have hpar := HPAR.out
    clear HPAR
    have e1 : numR (sub s i m) = dR (numP (sub s i m)) := rfl
    rcases hRr (numP (sub s i m)) with ⟨h1, h2⟩ | ⟨n, h1, h2⟩
    · rw [h1] at hun
      simp only [e1, h2] at hpar
      clear e1 h1 h2 hRr
      have HPAR := Lib.hid hpar; clear hpar
      have HUN := Lib.hid hun; clear hun hq34 hc8
      go_enter Tryz.func62, Tryz.ntmps62
      go_wp2_with fail
      refine (HW.out _).mono ?_
      rintro e w1 ⟨rfl, hb⟩
      obtain ⟨p1, rfl⟩ := gw_of_below hb
      clear hb
      go_wp2_with fail
      refine (HRUN.out _).mono ?_
      rintro e w1 ⟨rfl, rfl⟩
      go_wp2_with fail
      refine (HDIG.out _).mono ?_
      rintro e w1 ⟨rfl, rfl⟩
      go_wp2_with fail
      refine (HPAR.out _).mono ?_
      rintro e w1 ⟨rfl, rfl⟩
      go_wp2_with fail
      rw [← HUN.out]
      exact bodyPost_ret (v := .tuple #[tokV ⟨0, ⟨#[]⟩, 0, (i : Int)⟩, .int .i64 0, .int .i64 3]) (by simp [results, Tryz.results62, go_sem, *]) rfl ⟨rfl, by (repeat (first | exact Below.refl _ _ | refine Below.drew ?_ | (refine below_gw' ?_ (by first | omega | (simp [go_sem]; done) | (simp [go_sem]; omega)) _) | (refine Below.alloc ?_ (by first | omega | (simp [go_sem]; done) | (simp [go_sem]; omega)) _) | (refine Below.setCell ?_ (by first | omega | (simp [go_sem]; done) | (simp [go_sem]; omega)) _)))⟩
    · rw [h1] at hun
      simp only [e1, h2] at hpar
      clear e1 h1 h2 hRr
      have HPAR := Lib.hid hpar; clear hpar
      have HUN := Lib.hid hun; clear hun hq34 hc8
      go_enter Tryz.func62, Tryz.ntmps62
      go_wp2_with fail
      refine (HW.out _).mono ?_
      rintro e w1 ⟨rfl, hb⟩
      obtain ⟨p1, rfl⟩ := gw_of_below hb
      clear hb
      go_wp2_with fail
      refine (HRUN.out _).mono ?_
      rintro e w1 ⟨rfl, rfl⟩
      go_wp2_with fail
      refine (HDIG.out _).mono ?_
      rintro e w1 ⟨rfl, rfl⟩
      go_wp2_with fail
      refine (HPAR.out _).mono ?_
      rintro e w1 ⟨rfl, rfl⟩
      go_wp2_with fail
      rw [← HUN.out]
      exact bodyPost_ret (v := .tuple #[tokV ⟨2, ⟨#[]⟩, (n : Nat), (i : Int)⟩, .int .i64 (m : Nat), .int .i64 0]) (by simp [results, Tryz.results62, go_sem, *]) rfl ⟨rfl, by (repeat (first | exact Below.refl _ _ | refine Below.drew ?_ | (refine below_gw' ?_ (by first | omega | (simp [go_sem]; done) | (simp [go_sem]; omega)) _) | (refine Below.alloc ?_ (by first | omega | (simp [go_sem]; done) | (simp [go_sem]; omega)) _) | (refine Below.setCell ?_ (by first | omega | (simp [go_sem]; done) | (simp [go_sem]; omega)) _)))⟩
  by_cases h37 : c = 37
  · have hN : (d || decide (c = 37) || (decide (c = 36) && decide (i + 1 < m))) = true := by rw [h37]; simp
    obtain rfl : d = false := by simpa using hd1
    subst h37
    rw [if_pos hN] at hun
    clear hN
    have hRr : ∀ o : Option Nat, (o = none ∧ dR o = (0, false)) ∨ ∃ n, o = some n ∧ dR o = ((n : Int), true) := fun o => by cases o with
      | none => exact .inl ⟨rfl, rfl⟩
      | some n => exact .inr ⟨n, rfl, rfl⟩
    have hpar := HPAR.out
    clear HPAR
    have e1 : numR (sub s i m) = dR (numP (sub s i m)) := rfl
    rcases hRr (numP (sub s i m)) with ⟨h1, h2⟩ | ⟨n, h1, h2⟩
    · rw [h1] at hun
      simp only [e1, h2] at hpar
      clear e1 h1 h2 hRr
      have HPAR := Lib.hid hpar; clear hpar
      have HUN := Lib.hid hun; clear hun hq34 hc8
      go_enter Tryz.func62, Tryz.ntmps62
      go_wp2_with fail
      refine (HW.out _).mono ?_
      rintro e w1 ⟨rfl, hb⟩
      obtain ⟨p1, rfl⟩ := gw_of_below hb
      clear hb
      go_wp2_with fail
      refine (HRUN.out _).mono ?_
      rintro e w1 ⟨rfl, rfl⟩
      go_wp2_with fail
      refine (HDIG.out _).mono ?_
      rintro e w1 ⟨rfl, rfl⟩
      go_wp2_with fail
      refine (HPAR.out _).mono ?_
      rintro e w1 ⟨rfl, rfl⟩
      go_wp2_with fail
      rw [← HUN.out]
      exact bodyPost_ret (v := .tuple #[tokV ⟨0, ⟨#[]⟩, 0, (i : Int)⟩, .int .i64 0, .int .i64 3]) (by simp [results, Tryz.results62, go_sem, *]) rfl ⟨rfl, by (repeat (first | exact Below.refl _ _ | refine Below.drew ?_ | (refine below_gw' ?_ (by first | omega | (simp [go_sem]; done) | (simp [go_sem]; omega)) _) | (refine Below.alloc ?_ (by first | omega | (simp [go_sem]; done) | (simp [go_sem]; omega)) _) | (refine Below.setCell ?_ (by first | omega | (simp [go_sem]; done) | (simp [go_sem]; omega)) _)))⟩
    · rw [h1] at hun
      simp only [e1, h2] at hpar
      clear e1 h1 h2 hRr
      have HPAR := Lib.hid hpar; clear hpar
      have HUN := Lib.hid hun; clear hun hq34 hc8
      go_enter Tryz.func62, Tryz.ntmps62
      go_wp2_with fail
      refine (HW.out _).mono ?_
      rintro e w1 ⟨rfl, hb⟩
      obtain ⟨p1, rfl⟩ := gw_of_below hb
      clear hb
      go_wp2_with fail
      refine (HRUN.out _).mono ?_
      rintro e w1 ⟨rfl, rfl⟩
      go_wp2_with fail
      refine (HDIG.out _).mono ?_
      rintro e w1 ⟨rfl, rfl⟩
      go_wp2_with fail
      refine (HPAR.out _).mono ?_
      rintro e w1 ⟨rfl, rfl⟩
      go_wp2_with fail
      rw [← HUN.out]
      exact bodyPost_ret (v := .tuple #[tokV ⟨2, ⟨#[]⟩, (n : Nat), (i : Int)⟩, .int .i64 (m : Nat), .int .i64 0]) (by simp [results, Tryz.results62, go_sem, *]) rfl ⟨rfl, by (repeat (first | exact Below.refl _ _ | refine Below.drew ?_ | (refine below_gw' ?_ (by first | omega | (simp [go_sem]; done) | (simp [go_sem]; omega)) _) | (refine Below.alloc ?_ (by first | omega | (simp [go_sem]; done) | (simp [go_sem]; omega)) _) | (refine Below.setCell ?_ (by first | omega | (simp [go_sem]; done) | (simp [go_sem]; omega)) _)))⟩
  by_cases h36 : c = 36 ∧ i + 1 < m
  · obtain ⟨h36, h36m⟩ := h36
    have h36' : (i : Int) + 1 < (m : Int) := by omega
    have hN : (d || decide (c = 37) || (decide (c = 36) && decide (i + 1 < m))) = true := by rw [h36, decide_eq_true h36m]; simp
    obtain rfl : d = false := by simpa using hd1
    subst h36
    rw [if_pos hN] at hun
    clear hN
    have hRr : ∀ o : Option Nat, (o = none ∧ dR o = (0, false)) ∨ ∃ n, o = some n ∧ dR o = ((n : Int), true) := fun o => by cases o with
      | none => exact .inl ⟨rfl, rfl⟩
      | some n => exact .inr ⟨n, rfl, rfl⟩
    have hpar := HPAR.out
    clear HPAR
    have e1 : numR (sub s i m) = dR (numP (sub s i m)) := rfl
    rcases hRr (numP (sub s i m)) with ⟨h1, h2⟩ | ⟨n, h1, h2⟩
    · rw [h1] at hun
      simp only [e1, h2] at hpar
      clear e1 h1 h2 hRr
      have HPAR := Lib.hid hpar; clear hpar
      have HUN := Lib.hid hun; clear hun hq34 hc8
      go_enter Tryz.func62, Tryz.ntmps62
      go_wp2_with fail
      refine (HW.out _).mono ?_
      rintro e w1 ⟨rfl, hb⟩
      obtain ⟨p1, rfl⟩ := gw_of_below hb
      clear hb
      go_wp2_with fail
      refine (HRUN.out _).mono ?_
      rintro e w1 ⟨rfl, rfl⟩
      go_wp2_with fail
      refine (HDIG.out _).mono ?_
      rintro e w1 ⟨rfl, rfl⟩
      go_wp2_with fail
      refine (HPAR.out _).mono ?_
      rintro e w1 ⟨rfl, rfl⟩
      go_wp2_with fail
      rw [← HUN.out]
      exact bodyPost_ret (v := .tuple #[tokV ⟨0, ⟨#[]⟩, 0, (i : Int)⟩, .int .i64 0, .int .i64 3]) (by simp [results, Tryz.results62, go_sem, *]) rfl ⟨rfl, by (repeat (first | exact Below.refl _ _ | refine Below.drew ?_ | (refine below_gw' ?_ (by first | omega | (simp [go_sem]; done) | (simp [go_sem]; omega)) _) | (refine Below.alloc ?_ (by first | omega | (simp [go_sem]; done) | (simp [go_sem]; omega)) _) | (refine Below.setCell ?_ (by first | omega | (simp [go_sem]; done) | (simp [go_sem]; omega)) _)))⟩
    · rw [h1] at hun
      simp only [e1, h2] at hpar
      clear e1 h1 h2 hRr
      have HPAR := Lib.hid hpar; clear hpar
      have HUN := Lib.hid hun; clear hun hq34 hc8
      go_enter Tryz.func62, Tryz.ntmps62
      go_wp2_with fail
      refine (HW.out _).mono ?_
      rintro e w1 ⟨rfl, hb⟩
      obtain ⟨p1, rfl⟩ := gw_of_below hb
      clear hb
      go_wp2_with fail
      refine (HRUN.out _).mono ?_
      rintro e w1 ⟨rfl, rfl⟩
      go_wp2_with fail
      refine (HDIG.out _).mono ?_
      rintro e w1 ⟨rfl, rfl⟩
      go_wp2_with fail
      refine (HPAR.out _).mono ?_
      rintro e w1 ⟨rfl, rfl⟩
      go_wp2_with fail
      rw [← HUN.out]
      exact bodyPost_ret (v := .tuple #[tokV ⟨2, ⟨#[]⟩, (n : Nat), (i : Int)⟩, .int .i64 (m : Nat), .int .i64 0]) (by simp [results, Tryz.results62, go_sem, *]) rfl ⟨rfl, by (repeat (first | exact Below.refl _ _ | refine Below.drew ?_ | (refine below_gw' ?_ (by first | omega | (simp [go_sem]; done) | (simp [go_sem]; omega)) _) | (refine Below.alloc ?_ (by first | omega | (simp [go_sem]; done) | (simp [go_sem]; omega)) _) | (refine Below.setCell ?_ (by first | omega | (simp [go_sem]; done) | (simp [go_sem]; omega)) _)))⟩
  obtain rfl : d = false := by simpa using hd1
  have hN : ¬ (false || decide (c = 37) || (decide (c = 36) && decide (i + 1 < m))) = true := by
    simp only [Bool.or_eq_true, Bool.and_eq_true, decide_eq_true_eq, Bool.false_eq_true, false_or]
    rintro (h | h)
    · exact h37 h
    · exact h36 h
  rw [if_neg hN] at hun
  clear hN HPAR hd1
  by_cases h34 : c = 34
  · subst h34
    rw [if_pos (by decide)] at hun
    clear h36 h37
    have hquo := fun w => quoted16_any s i w hi hs
    have hRr : ∀ o : Option (ByteArray × Nat), (o = none ∧ qR o = (⟨#[]⟩, -1)) ∨ ∃ t n, o = some (t, n) ∧ qR o = (t, (n : Int)) := fun o => by cases o with
      | none => exact .inl ⟨rfl, rfl⟩
      | some n => exact .inr ⟨n.1, n.2, rfl, rfl⟩
    rcases hRr (quotedP s i) with ⟨h1, h2⟩ | ⟨t, n, h1, h2⟩
    · rw [h1] at hun
      simp only [h2] at hquo
      clear h1 h2 hRr
      have HQ := Lib.hid hquo; clear hquo
      have HUN := Lib.hid hun; clear hun hq34 hc8
      go_enter Tryz.func62, Tryz.ntmps62
      go_wp2_with fail
      refine (HW.out _).mono ?_
      rintro e w1 ⟨rfl, hb⟩
      obtain ⟨p1, rfl⟩ := gw_of_below hb
      clear hb
      go_wp2_with fail
      refine (HRUN.out _).mono ?_
      rintro e w1 ⟨rfl, rfl⟩
      go_wp2_with fail
      refine (HDIG.out _).mono ?_
      rintro e w1 ⟨rfl, rfl⟩
      go_wp2_with fail
      refine (HQ.out _).mono ?_
      rintro e w1 ⟨rfl, rfl⟩
      go_wp2_with fail
      rw [← HUN.out]
      exact bodyPost_ret (v := .tuple #[tokV ⟨0, ⟨#[]⟩, 0, (i : Int)⟩, .int .i64 0, .int .i64 3]) (by simp [results, Tryz.results62, go_sem, *]) rfl ⟨rfl, by (repeat (first | exact Below.refl _ _ | refine Below.drew ?_ | (refine below_gw' ?_ (by first | omega | (simp [go_sem]; done) | (simp [go_sem]; omega)) _) | (refine Below.alloc ?_ (by first | omega | (simp [go_sem]; done) | (simp [go_sem]; omega)) _) | (refine Below.setCell ?_ (by first | omega | (simp [go_sem]; done) | (simp [go_sem]; omega)) _)))⟩
    · rw [h1] at hun
      simp only [h2] at hquo
      clear h1 h2 hRr
      have hn0 : ¬ (n : Int) < 0 := by omega
      have HQ := Lib.hid hquo; clear hquo
      have HUN := Lib.hid hun; clear hun hq34 hc8
      go_enter Tryz.func62, Tryz.ntmps62
      go_wp2_with fail
      refine (HW.out _).mono ?_
      rintro e w1 ⟨rfl, hb⟩
      obtain ⟨p1, rfl⟩ := gw_of_below hb
      clear hb
      go_wp2_with fail
      refine (HRUN.out _).mono ?_
      rintro e w1 ⟨rfl, rfl⟩
      go_wp2_with fail
      refine (HDIG.out _).mono ?_
      rintro e w1 ⟨rfl, rfl⟩
      go_wp2_with fail
      refine (HQ.out _).mono ?_
      rintro e w1 ⟨rfl, rfl⟩
      go_wp2_with fail
      rw [← HUN.out]
      exact bodyPost_ret (v := .tuple #[tokV ⟨3, t, 0, (i : Int)⟩, .int .i64 (n : Nat), .int .i64 0]) (by simp [results, Tryz.results62, go_sem, *]) rfl ⟨rfl, by (repeat (first | exact Below.refl _ _ | refine Below.drew ?_ | (refine below_gw' ?_ (by first | omega | (simp [go_sem]; done) | (simp [go_sem]; omega)) _) | (refine Below.alloc ?_ (by first | omega | (simp [go_sem]; done) | (simp [go_sem]; omega)) _) | (refine Below.setCell ?_ (by first | omega | (simp [go_sem]; done) | (simp [go_sem]; omega)) _)))⟩
  by_cases h39 : c = 39
  · subst h39
    rw [if_pos (by decide)] at hun
    clear h36 h37
    have hquo := fun w => quoted16_any s i w hi hs
    have hRr : ∀ o : Option (ByteArray × Nat), (o = none ∧ qR o = (⟨#[]⟩, -1)) ∨ ∃ t n, o = some (t, n) ∧ qR o = (t, (n : Int)) := fun o => by cases o with
      | none => exact .inl ⟨rfl, rfl⟩
      | some n => exact .inr ⟨n.1, n.2, rfl, rfl⟩
    rcases hRr (quotedP s i) with ⟨h1, h2⟩ | ⟨t, n, h1, h2⟩
    · rw [h1] at hun
      simp only [h2] at hquo
      clear h1 h2 hRr
      have HQ := Lib.hid hquo; clear hquo
      have HUN := Lib.hid hun; clear hun hq34 hc8
      go_enter Tryz.func62, Tryz.ntmps62
      go_wp2_with fail
      refine (HW.out _).mono ?_
      rintro e w1 ⟨rfl, hb⟩
      obtain ⟨p1, rfl⟩ := gw_of_below hb
      clear hb
      go_wp2_with fail
      refine (HRUN.out _).mono ?_
      rintro e w1 ⟨rfl, rfl⟩
      go_wp2_with fail
      refine (HDIG.out _).mono ?_
      rintro e w1 ⟨rfl, rfl⟩
      go_wp2_with fail
      refine (HQ.out _).mono ?_
      rintro e w1 ⟨rfl, rfl⟩
      go_wp2_with fail
      rw [← HUN.out]
      exact bodyPost_ret (v := .tuple #[tokV ⟨0, ⟨#[]⟩, 0, (i : Int)⟩, .int .i64 0, .int .i64 3]) (by simp [results, Tryz.results62, go_sem, *]) rfl ⟨rfl, by (repeat (first | exact Below.refl _ _ | refine Below.drew ?_ | (refine below_gw' ?_ (by first | omega | (simp [go_sem]; done) | (simp [go_sem]; omega)) _) | (refine Below.alloc ?_ (by first | omega | (simp [go_sem]; done) | (simp [go_sem]; omega)) _) | (refine Below.setCell ?_ (by first | omega | (simp [go_sem]; done) | (simp [go_sem]; omega)) _)))⟩
    · rw [h1] at hun
      simp only [h2] at hquo
      clear h1 h2 hRr
      have hn0 : ¬ (n : Int) < 0 := by omega
      have HQ := Lib.hid hquo; clear hquo
      have HUN := Lib.hid hun; clear hun hq34 hc8
      go_enter Tryz.func62, Tryz.ntmps62
      go_wp2_with fail
      refine (HW.out _).mono ?_
      rintro e w1 ⟨rfl, hb⟩
      obtain ⟨p1, rfl⟩ := gw_of_below hb
      clear hb
      go_wp2_with fail
      refine (HRUN.out _).mono ?_
      rintro e w1 ⟨rfl, rfl⟩
      go_wp2_with fail
      refine (HDIG.out _).mono ?_
      rintro e w1 ⟨rfl, rfl⟩
      go_wp2_with fail
      refine (HQ.out _).mono ?_
      rintro e w1 ⟨rfl, rfl⟩
      go_wp2_with fail
      rw [← HUN.out]
      exact bodyPost_ret (v := .tuple #[tokV ⟨3, t, 0, (i : Int)⟩, .int .i64 (n : Nat), .int .i64 0]) (by simp [results, Tryz.results62, go_sem, *]) rfl ⟨rfl, by (repeat (first | exact Below.refl _ _ | refine Below.drew ?_ | (refine below_gw' ?_ (by first | omega | (simp [go_sem]; done) | (simp [go_sem]; omega)) _) | (refine Below.alloc ?_ (by first | omega | (simp [go_sem]; done) | (simp [go_sem]; omega)) _) | (refine Below.setCell ?_ (by first | omega | (simp [go_sem]; done) | (simp [go_sem]; omega)) _)))⟩
  rw [if_neg (by rintro (h | h); exact h34 h; exact h39 h)] at hun
  obtain ⟨k, hk⟩ : ∃ k, signLen s i = k := ⟨_, rfl⟩
  have hsg := fun w => sign16_any s i w hi hs
  have hk2 := signLen_le s i hi
  rw [hk] at hun hk2
  simp only [hk] at hsg
  obtain ⟨hk3, hk4⟩ := hk2
  have hk3' : (i : Int) + (k : Int) ≤ (s.size : Int) := by omega
  clear hk
  have HS := Lib.hid hsg; clear hsg
  by_cases h6 : c = 36
  · have hnm : ¬ (i : Int) + 1 < (m : Int) := fun h => h36 ⟨h6, by omega⟩
    subst h6
    clear h36 h37 h34 h39
    by_cases hk0 : k = 0
    · rw [if_pos hk0] at hun
      subst hk0
      have HUN := Lib.hid hun; clear hun hq34 hc8
      go_enter Tryz.func62, Tryz.ntmps62
      go_wp2_with fail
      refine (HW.out _).mono ?_
      rintro e w1 ⟨rfl, hb⟩
      obtain ⟨p1, rfl⟩ := gw_of_below hb
      clear hb
      go_wp2_with fail
      refine (HRUN.out _).mono ?_
      rintro e w1 ⟨rfl, rfl⟩
      go_wp2_with fail
      refine (HDIG.out _).mono ?_
      rintro e w1 ⟨rfl, rfl⟩
      go_wp2_with fail
      refine (HS.out _).mono ?_
      rintro e w1 ⟨rfl, hb⟩
      obtain ⟨p2, rfl⟩ := gw_of_below hb
      clear hb
      go_wp2_with fail
      rw [← HUN.out]
      exact bodyPost_ret (v := .tuple #[tokV ⟨0, ⟨#[]⟩, 0, (i : Int)⟩, .int .i64 0, .int .i64 20]) (by simp [results, Tryz.results62, go_sem, *]) rfl ⟨rfl, by (repeat (first | exact Below.refl _ _ | refine Below.drew ?_ | (refine below_gw' ?_ (by first | omega | (simp [go_sem]; done) | (simp [go_sem]; omega)) _) | (refine Below.alloc ?_ (by first | omega | (simp [go_sem]; done) | (simp [go_sem]; omega)) _) | (refine Below.setCell ?_ (by first | omega | (simp [go_sem]; done) | (simp [go_sem]; omega)) _)))⟩
    · rw [if_neg hk0] at hun
      have hk0' : ¬ (k : Int) = 0 := by omega
      have hk5 : (0 : Int) ≤ (k : Int) := by omega
      have HUN := Lib.hid hun; clear hun hq34 hc8
      go_enter Tryz.func62, Tryz.ntmps62
      go_wp2_with fail
      refine (HW.out _).mono ?_
      rintro e w1 ⟨rfl, hb⟩
      obtain ⟨p1, rfl⟩ := gw_of_below hb
      clear hb
      go_wp2_with fail
      refine (HRUN.out _).mono ?_
      rintro e w1 ⟨rfl, rfl⟩
      go_wp2_with fail
      refine (HDIG.out _).mono ?_
      rintro e w1 ⟨rfl, rfl⟩
      go_wp2_with fail
      refine (HS.out _).mono ?_
      rintro e w1 ⟨rfl, hb⟩
      obtain ⟨p2, rfl⟩ := gw_of_below hb
      clear hb
      go_wp2_with fail
      rw [← HUN.out]
      exact bodyPost_ret (v := .tuple #[tokV ⟨4, sub s i (i + k), 0, (i : Int)⟩, .int .i64 ((i + k : Nat)), .int .i64 0]) (by simp [results, Tryz.results62, go_sem, *]) rfl ⟨rfl, by (repeat (first | exact Below.refl _ _ | refine Below.drew ?_ | (refine below_gw' ?_ (by first | omega | (simp [go_sem]; done) | (simp [go_sem]; omega)) _) | (refine Below.alloc ?_ (by first | omega | (simp [go_sem]; done) | (simp [go_sem]; omega)) _) | (refine Below.setCell ?_ (by first | omega | (simp [go_sem]; done) | (simp [go_sem]; omega)) _)))⟩
  · have b34 : (c == 34) = false := by simpa using h34
    have b39 : (c == 39) = false := by simpa using h39
    have b37 : (c == 37) = false := by simpa using h37
    have b36 : (c == 36) = false := by simpa using h6
    clear h36 h34 h39 h37 h6
    by_cases hk0 : k = 0
    · rw [if_pos hk0] at hun
      subst hk0
      have HUN := Lib.hid hun; clear hun hq34 hc8
      go_enter Tryz.func62, Tryz.ntmps62
      go_wp2_with fail
      refine (HW.out _).mono ?_
      rintro e w1 ⟨rfl, hb⟩
      obtain ⟨p1, rfl⟩ := gw_of_below hb
      clear hb
      go_wp2_with fail
      refine (HRUN.out _).mono ?_
      rintro e w1 ⟨rfl, rfl⟩
      go_wp2_with fail
      refine (HDIG.out _).mono ?_
      rintro e w1 ⟨rfl, rfl⟩
      go_wp2_with fail
      refine (HS.out _).mono ?_
      rintro e w1 ⟨rfl, hb⟩
      obtain ⟨p2, rfl⟩ := gw_of_below hb
      clear hb
      go_wp2_with fail
      rw [← HUN.out]
      exact bodyPost_ret (v := .tuple #[tokV ⟨0, ⟨#[]⟩, 0, (i : Int)⟩, .int .i64 0, .int .i64 20]) (by simp [results, Tryz.results62, go_sem, *]) rfl ⟨rfl, by (repeat (first | exact Below.refl _ _ | refine Below.drew ?_ | (refine below_gw' ?_ (by first | omega | (simp [go_sem]; done) | (simp [go_sem]; omega)) _) | (refine Below.alloc ?_ (by first | omega | (simp [go_sem]; done) | (simp [go_sem]; omega)) _) | (refine Below.setCell ?_ (by first | omega | (simp [go_sem]; done) | (simp [go_sem]; omega)) _)))⟩
    · rw [if_neg hk0] at hun
      have hk0' : ¬ (k : Int) = 0 := by omega
      have hk5 : (0 : Int) ≤ (k : Int) := by omega
      have HUN := Lib.hid hun; clear hun hq34 hc8
      go_enter Tryz.func62, Tryz.ntmps62
      go_wp2_with fail
      refine (HW.out _).mono ?_
      rintro e w1 ⟨rfl, hb⟩
      obtain ⟨p1, rfl⟩ := gw_of_below hb
      clear hb
      go_wp2_with fail
      refine (HRUN.out _).mono ?_
      rintro e w1 ⟨rfl, rfl⟩
      go_wp2_with fail
      refine (HDIG.out _).mono ?_
      rintro e w1 ⟨rfl, rfl⟩
      go_wp2_with fail
      refine (HS.out _).mono ?_
      rintro e w1 ⟨rfl, hb⟩
      obtain ⟨p2, rfl⟩ := gw_of_below hb
      clear hb
      go_wp2_with fail
      rw [← HUN.out]
      exact bodyPost_ret (v := .tuple #[tokV ⟨4, sub s i (i + k), 0, (i : Int)⟩, .int .i64 ((i + k : Nat)), .int .i64 0]) (by simp [results, Tryz.results62, go_sem, *]) rfl ⟨rfl, by (repeat (first | exact Below.refl _ _ | refine Below.drew ?_ | (refine below_gw' ?_ (by first | omega | (simp [go_sem]; done) | (simp [go_sem]; omega)) _) | (refine Below.alloc ?_ (by first | omega | (simp [go_sem]; done) | (simp [go_sem]; omega)) _) | (refine Below.setCell ?_ (by first | omega | (simp [go_sem]; done) | (simp [go_sem]; omega)) _)))⟩
end Go.Proofs.YtnjpfhihbjihbaaGreatDoor
