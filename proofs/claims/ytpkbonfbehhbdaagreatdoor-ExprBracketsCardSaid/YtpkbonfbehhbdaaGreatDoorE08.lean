/- Joined texts: Apply, EvalV, EvalB1, EvalB2, EvalB3. -/
import Derived.Test.YtpkbonfbehhbdaaGreatDoorE07
import Derived.Deep.RegionHeld3
/- The functions in the map of operators. -/
namespace Go.Proofs.YtpkbonfbehhbdaaGreatDoor
open Go.RowKit Go.Sort

set_option maxHeartbeats 1000000 in
theorem opfn_any (i : Nat) (hi : i < 10) (a b : Int) (w : World) (ha : -2147483648 ≤ a ∧ a ≤ 2147483647) (hb : -2147483648 ≤ b ∧ b ≤ 2147483647) (hs : i = 3 ∨ i = 4 → 0 ≤ b ∧ b ≤ 31) (hd : i = 8 ∨ i = 9 → b ≠ 0) :
    Calls Tryz.prog (opFn i) #[.int .i64 a, .int .i64 b] w fun e w' => e = .returned (.int .i64 (opFun i a b)) ∧ w = w' := by
  obtain ⟨ha1, ha2⟩ := ha
  obtain ⟨hb1, hb2⟩ := hb
  have h10 : i = 0 ∨ i = 1 ∨ i = 2 ∨ i = 3 ∨ i = 4 ∨ i = 5 ∨ i = 6 ∨ i = 7 ∨ i = 8 ∨ i = 9 := by omega
  rcases h10 with rfl | rfl | rfl | rfl | rfl | rfl | rfl | rfl | rfl | rfl
  · show Calls Tryz.prog 63 _ _ _
    go_enter Tryz.func63, Tryz.ntmps63
    go_wp2
    go_ret
    exact ⟨rfl, rfl⟩
  · show Calls Tryz.prog 64 _ _ _
    go_enter Tryz.func64, Tryz.ntmps64
    go_wp2
    go_ret
    exact ⟨rfl, rfl⟩
  · show Calls Tryz.prog 65 _ _ _
    go_enter Tryz.func65, Tryz.ntmps65
    go_wp2
    go_ret
    exact ⟨rfl, rfl⟩
  · show Calls Tryz.prog 67 _ _ _
    obtain ⟨h0, h1⟩ := hs (.inl rfl)
    have hp := pow31 b h0 h1
    have hm := mul_in ha1 ha2 (by omega) hp.2
    have hw : wrap64 (a * 2 ^ b.toNat) = a * 2 ^ b.toNat := by simp only [wrap64]; omega
    have HW := Lib.hid hw
    clear hs hd hp hm hw
    go_enter Tryz.func67, Tryz.ntmps67
    go_wp2
    go_ret
    exact ⟨by show Ending.returned (.int .i64 (wrap64 _)) = _; rw [HW.out]; rfl, rfl⟩
  · show Calls Tryz.prog 68 _ _ _
    obtain ⟨h0, h1⟩ := hs (.inr rfl)
    clear hs hd
    go_enter Tryz.func68, Tryz.ntmps68
    go_wp2
    go_ret
    exact ⟨rfl, rfl⟩
  · show Calls Tryz.prog 69 _ _ _
    go_enter Tryz.func69, Tryz.ntmps69
    go_wp2
    go_ret
    exact ⟨rfl, rfl⟩
  · show Calls Tryz.prog 70 _ _ _
    go_enter Tryz.func70, Tryz.ntmps70
    go_wp2
    go_ret
    exact ⟨rfl, rfl⟩
  · show Calls Tryz.prog 71 _ _ _
    have hm := mul_in ha1 ha2 hb1 (by omega)
    go_enter Tryz.func71, Tryz.ntmps71
    go_wp2
    go_ret
    exact ⟨rfl, rfl⟩
  · show Calls Tryz.prog 73 _ _ _
    have h0 := hd (.inl rfl)
    have hw : wrap64 (a.tdiv b) = a.tdiv b := by have := tdiv_in (b := b) ha1 ha2; simp only [wrap64]; omega
    have HW := Lib.hid hw; clear hw
    go_enter Tryz.func73, Tryz.ntmps73
    go_wp2
    go_ret
    exact ⟨by show Ending.returned (.int .i64 (wrap64 _)) = _; rw [HW.out]; rfl, rfl⟩
  · show Calls Tryz.prog 74 _ _ _
    have h0 := hd (.inr rfl)
    go_enter Tryz.func74, Tryz.ntmps74
    go_wp2
    go_ret
    exact ⟨rfl, rfl⟩

set_option maxHeartbeats 1000000 in
theorem apply_any (i : Nat) (hi : i < 10) (a b : Int) (g : Nat) (w : World) (ha : -2147483648 ≤ a ∧ a ≤ 2147483647) (hb : -2147483648 ≤ b ∧ b ≤ 2147483647) (hc : w.cell? ⟨g, 0, none⟩ = some (.func (.func (opFn i)) #[] #[])) (hg : g < w.heap.size) :
    Calls Tryz.prog (opCl i) #[.int .i64 a, .int .i64 b, .pointer (some ⟨g, 0, none⟩)] w fun e w' => e = .returned (.tuple #[.int .i64 (opRaw i a b).1, .int .i64 (opRaw i a b).2]) ∧ Below w.heap.size w w' := by
  have hop := opfn_any i hi a b
  obtain ⟨R, hR⟩ : ∃ R, opRaw i a b = R := ⟨_, rfl⟩
  obtain ⟨F, hF⟩ : ∃ F, opFun i a b = F := ⟨_, rfl⟩
  rw [hR]
  rw [hF] at hop
  unfold opRaw at hR
  rw [hF] at hR
  have h10 : (i = 0 ∨ i = 1 ∨ i = 2 ∨ i = 5 ∨ i = 6 ∨ i = 7) ∨ (i = 3 ∨ i = 4) ∨ (i = 8 ∨ i = 9) := by omega
  rcases h10 with h | h | h
  · rw [if_neg (by omega), if_neg (by omega)] at hR
    subst hR
    have hop := fun w => hop w ha hb (by omega) (by omega)
    have HOP := Lib.hid hop; clear hop
    have hcl : opCl i = 102 := by rcases h with rfl | rfl | rfl | rfl | rfl | rfl <;> rfl
    rw [hcl]
    clear hcl hF
    rcases h with rfl | rfl | rfl | rfl | rfl | rfl
    all_goals
      simp only [opFn] at hc HOP
      go_enter Tryz.func102, Tryz.ntmps102
      go_wp2_with fail
      refine (HOP.out _).mono ?_
      rintro e w1 ⟨rfl, rfl⟩
      go_wp2_with fail
      exact bodyPost_ret (v := .tuple #[.int .i64 F, .int .i64 0]) (by simp [results, Tryz.results102, go_sem]) rfl ⟨rfl, by (repeat (first | exact Below.refl _ _ | refine Below.drew ?_ | (refine below_gw' ?_ (by first | omega | (simp [go_sem]; done) | (simp [go_sem]; omega)) _) | (refine Below.alloc ?_ (by first | omega | (simp [go_sem]; done) | (simp [go_sem]; omega)) _) | (refine Below.setCell ?_ (by first | omega | (simp [go_sem]; done) | (simp [go_sem]; omega)) _)))⟩
  · have hcl : opCl i = 103 := by rcases h with rfl | rfl <;> rfl
    rw [hcl]
    have hfit := fits1 0 31 b
    by_cases hbb : b < 0 ∨ 31 < b
    · rw [if_pos ⟨h, hbb⟩] at hR
      subst hR
      have hd : (decide (0 ≤ b) && decide (b ≤ 31)) = false := by simp; omega
      rw [hd] at hfit
      have HFIT := Lib.hid hfit; clear hfit hd hop hcl hF
      go_enter Tryz.func103, Tryz.ntmps103
      go_wp2_with fail
      refine (HFIT.out _ _ (by simp [go_sem])).mono ?_
      rintro e w1 ⟨rfl, rfl⟩
      go_wp2_with fail
      exact bodyPost_ret (v := .tuple #[.int .i64 0, .int .i64 2]) (by simp [results, Tryz.results103, go_sem]) rfl ⟨rfl, by (repeat (first | exact Below.refl _ _ | refine Below.drew ?_ | (refine below_gw' ?_ (by first | omega | (simp [go_sem]; done) | (simp [go_sem]; omega)) _) | (refine Below.alloc ?_ (by first | omega | (simp [go_sem]; done) | (simp [go_sem]; omega)) _) | (refine Below.setCell ?_ (by first | omega | (simp [go_sem]; done) | (simp [go_sem]; omega)) _)))⟩
    · rw [if_neg (by omega), if_neg (by omega)] at hR
      subst hR
      have hd : (decide (0 ≤ b) && decide (b ≤ 31)) = true := by simp; omega
      rw [hd] at hfit
      have hop := fun w => hop w ha hb (by omega) (by omega)
      have HOP := Lib.hid hop; clear hop
      have HFIT := Lib.hid hfit; clear hfit hd hcl hF
      rcases h with rfl | rfl
      all_goals
        simp only [opFn] at hc HOP
        go_enter Tryz.func103, Tryz.ntmps103
        go_wp2_with fail
        refine (HFIT.out _ _ (by simp [go_sem])).mono ?_
        rintro e w1 ⟨rfl, rfl⟩
        go_wp2_with fail
        refine (HOP.out _).mono ?_
        rintro e w1 ⟨rfl, rfl⟩
        go_wp2_with fail
        exact bodyPost_ret (v := .tuple #[.int .i64 F, .int .i64 0]) (by simp [results, Tryz.results103, go_sem]) rfl ⟨rfl, by (repeat (first | exact Below.refl _ _ | refine Below.drew ?_ | (refine below_gw' ?_ (by first | omega | (simp [go_sem]; done) | (simp [go_sem]; omega)) _) | (refine Below.alloc ?_ (by first | omega | (simp [go_sem]; done) | (simp [go_sem]; omega)) _) | (refine Below.setCell ?_ (by first | omega | (simp [go_sem]; done) | (simp [go_sem]; omega)) _)))⟩
  · have hcl : opCl i = 104 := by rcases h with rfl | rfl <;> rfl
    rw [hcl]
    rw [if_neg (by omega)] at hR
    by_cases hb0 : b = 0
    · rw [if_pos ⟨h, hb0⟩] at hR
      subst hR
      subst hb0
      clear hop hcl hF
      go_enter Tryz.func104, Tryz.ntmps104
      go_wp2_with fail
      exact bodyPost_ret (v := .tuple #[.int .i64 0, .int .i64 18]) (by simp [results, Tryz.results104, go_sem]) rfl ⟨rfl, by (repeat (first | exact Below.refl _ _ | refine Below.drew ?_ | (refine below_gw' ?_ (by first | omega | (simp [go_sem]; done) | (simp [go_sem]; omega)) _) | (refine Below.alloc ?_ (by first | omega | (simp [go_sem]; done) | (simp [go_sem]; omega)) _) | (refine Below.setCell ?_ (by first | omega | (simp [go_sem]; done) | (simp [go_sem]; omega)) _)))⟩
    · rw [if_neg (fun h => hb0 h.2)] at hR
      subst hR
      have hop := fun w => hop w ha hb (by omega) (fun _ => hb0)
      have HOP := Lib.hid hop; clear hop
      have b0 : (b == 0) = false := by simpa using hb0
      clear hcl hF
      rcases h with rfl | rfl
      all_goals
        simp only [opFn] at hc HOP
        go_enter Tryz.func104, Tryz.ntmps104
        go_wp2_with fail
        refine (HOP.out _).mono ?_
        rintro e w1 ⟨rfl, rfl⟩
        go_wp2_with fail
        exact bodyPost_ret (v := .tuple #[.int .i64 F, .int .i64 0]) (by simp [results, Tryz.results104, go_sem]) rfl ⟨rfl, by (repeat (first | exact Below.refl _ _ | refine Below.drew ?_ | (refine below_gw' ?_ (by first | omega | (simp [go_sem]; done) | (simp [go_sem]; omega)) _) | (refine Below.alloc ?_ (by first | omega | (simp [go_sem]; done) | (simp [go_sem]; omega)) _) | (refine Below.setCell ?_ (by first | omega | (simp [go_sem]; done) | (simp [go_sem]; omega)) _)))⟩

set_option maxHeartbeats 1000000 in
theorem pranged_any (n c : Int) (w : World) :
    Calls Tryz.prog 38 #[.int .i64 n, .int .i64 c] w fun e w' => e = .returned (.tuple #[.int .i64 (rangedC (n, c)).1, .int .i64 (rangedC (n, c)).2]) ∧ Below w.heap.size w w' := by
  by_cases hc : c = 0
  · subst hc
    have hfit := fits1 (-2147483648) 2147483647 n
    by_cases hn : n < -2147483648 ∨ 2147483647 < n
    · have hr : rangedC (n, 0) = (0, 2) := by simp [rangedC, rangedP, hn]
      rw [hr]
      have hd : (decide (-2147483648 ≤ n) && decide (n ≤ 2147483647)) = false := by simp; omega
      rw [hd] at hfit
      have HFIT := Lib.hid hfit; clear hfit hd hr
      go_enter Tryz.func38, Tryz.ntmps38
      go_wp2_with fail
      refine (HFIT.out _ _ (by simp [go_sem])).mono ?_
      rintro e w1 ⟨rfl, rfl⟩
      go_wp2_with fail
      exact bodyPost_ret (v := .tuple #[.int .i64 0, .int .i64 2]) (by simp [results, Tryz.results38, go_sem]) rfl ⟨rfl, by (repeat (first | exact Below.refl _ _ | refine Below.drew ?_ | (refine below_gw' ?_ (by first | omega | (simp [go_sem]; done) | (simp [go_sem]; omega)) _) | (refine Below.alloc ?_ (by first | omega | (simp [go_sem]; done) | (simp [go_sem]; omega)) _) | (refine Below.setCell ?_ (by first | omega | (simp [go_sem]; done) | (simp [go_sem]; omega)) _)))⟩
    · have hr : rangedC (n, 0) = (n, 0) := by simp [rangedC, rangedP, hn]
      rw [hr]
      have hd : (decide (-2147483648 ≤ n) && decide (n ≤ 2147483647)) = true := by simp; omega
      rw [hd] at hfit
      have HFIT := Lib.hid hfit; clear hfit hd hr
      go_enter Tryz.func38, Tryz.ntmps38
      go_wp2_with fail
      refine (HFIT.out _ _ (by simp [go_sem])).mono ?_
      rintro e w1 ⟨rfl, rfl⟩
      go_wp2_with fail
      exact bodyPost_ret (v := .tuple #[.int .i64 n, .int .i64 0]) (by simp [results, Tryz.results38, go_sem]) rfl ⟨rfl, by (repeat (first | exact Below.refl _ _ | refine Below.drew ?_ | (refine below_gw' ?_ (by first | omega | (simp [go_sem]; done) | (simp [go_sem]; omega)) _) | (refine Below.alloc ?_ (by first | omega | (simp [go_sem]; done) | (simp [go_sem]; omega)) _) | (refine Below.setCell ?_ (by first | omega | (simp [go_sem]; done) | (simp [go_sem]; omega)) _)))⟩
  · have hr : rangedC (n, c) = (n, c) := by simp [rangedC, hc]
    rw [hr]
    have hcb : (c == 0) = false := by simpa using hc
    clear hr
    go_enter Tryz.func38, Tryz.ntmps38
    go_wp2_with fail
    exact bodyPost_ret (v := .tuple #[.int .i64 n, .int .i64 c]) (by simp [results, Tryz.results38, go_sem]) rfl ⟨rfl, by (repeat (first | exact Below.refl _ _ | refine Below.drew ?_ | (refine below_gw' ?_ (by first | omega | (simp [go_sem]; done) | (simp [go_sem]; omega)) _) | (refine Below.alloc ?_ (by first | omega | (simp [go_sem]; done) | (simp [go_sem]; omega)) _) | (refine Below.setCell ?_ (by first | omega | (simp [go_sem]; done) | (simp [go_sem]; omega)) _)))⟩
end Go.Proofs.YtpkbonfbehhbdaaGreatDoor

/- expr.Eval: maps of numbers, nodes. -/
namespace Go.Proofs.YtpkbonfbehhbdaaGreatDoor
open Go.RowKit Go.Sort

open Go.ChangeMaps
/-- The values that a map of numbers holds. -/
def MapAt (w : World) (v : Value) (env : ByteArray → Option Int) : Prop :=
  (v = .map none ∧ ∀ s, env s = none) ∨ ∃ b l, v = .map (some b) ∧ SMap w b l ∧ ∀ s, sget l s = (env s).map (Value.int .i64)
theorem MapAt.below {w w' : World} {v : Value} {env : ByteArray → Option Int} (h : MapAt w v env) (hb : Below w.heap.size w w') : MapAt w' v env := by
  rcases h with h | ⟨b, l, hv, hm, hs⟩
  · exact .inl h
  · exact .inr ⟨b, l, hv, hm.below hb, hs⟩
theorem zeroInt (w : World) : (zeroValue 3).run Tryz.prog w = .ok (.int .i64 0) w := by kernel_rfl
theorem MapAt.look {w : World} {v : Value} {env : ByteArray → Option Int} (h : MapAt w v env) (s : ByteArray) : (Instr.lookup 42 v (.string s) true).run Tryz.prog w = .ok (.tuple #[.int .i64 ((env s).getD 0), .bool (env s).isSome]) w := by
  rcases h with ⟨rfl, h⟩ | ⟨b, l, rfl, hm, hs⟩
  · rw [run_snil Tryz.underlying42 Tryz.underlying9 zeroInt, h s]; rfl
  · rw [run_sget Tryz.underlying42 Tryz.underlying9 zeroInt hm, hs s]
    cases env s <;> rfl
theorem node_cells {w : World} {T : TypeId} {g : Nat} {c0 c1 c2 c3 c4 : Value} (h : w.heap[g]? = some (.cells #[c0, c1, c2, c3, c4] T (0, 0))) : g < w.heap.size ∧ w.cell? ⟨g, 0, none⟩ = some c0 ∧ w.cell? ⟨g, 1, none⟩ = some c1 ∧ w.cell? ⟨g, 2, none⟩ = some c2 ∧ w.cell? ⟨g, 3, none⟩ = some c3 ∧ w.cell? ⟨g, 4, none⟩ = some c4 := by
  refine ⟨lt_of_block h, ?_, ?_, ?_, ?_, ?_⟩ <;> simp [World.cell?, h]
theorem cell_lt {w : World} {b o : Nat} {v : Value} (h : w.cell? ⟨b, o, none⟩ = some v) : b < w.heap.size := by
  rcases Nat.lt_or_ge b w.heap.size with h1 | h1
  · exact h1
  · simp [World.cell?, Array.getElem?_eq_none h1] at h
def EvRes (r : Int × Int) (w : World) (e : Ending) (w' : World) : Prop := e = .returned (.tuple #[.int .i64 r.1, .int .i64 r.2]) ∧ Below w.heap.size w w'

end Go.Proofs.YtpkbonfbehhbdaaGreatDoor

/- expr.Eval at a binary node. (Written by wip/gen_evalw.py.) -/
namespace Go.Proofs.YtpkbonfbehhbdaaGreatDoor
open Go.RowKit Go.Sort

set_option maxHeartbeats 2000000 in
set_option maxRecDepth 100000 in
theorem eval_bin1 (op : ByteArray) (here : Int) (m : Value) (w : World) (g ga gb i : Nat) (x y : Int) (R : Int × Int) (hlt : g < w.heap.size)
    (c0 : w.cell? ⟨g, 0, none⟩ = some (.int .i64 5)) (_ : w.cell? ⟨g, 1, none⟩ = some (.int .i64 0)) (c2 : w.cell? ⟨g, 2, none⟩ = some (.string op)) (c3 : w.cell? ⟨g, 3, none⟩ = some (.pointer (some ⟨ga, 0, none⟩))) (c4 : w.cell? ⟨g, 4, none⟩ = some (.pointer (some ⟨gb, 0, none⟩)))
    (IH : Hid (Calls Tryz.prog 17 #[.pointer (some ⟨ga, 0, none⟩), .int .i64 here, m] w (EvRes (x, 0) w)))
    (IHB : Hid (∀ w', Below w.heap.size w w' → Calls Tryz.prog 17 #[.pointer (some ⟨gb, 0, none⟩), .int .i64 here, m] w' (EvRes (y, 0) w')))
    (HI10 : Hid (i < 10)) (HV : Hid (∀ gg, opVal gg op = .agg #[.int .i64 (opLv i : Nat), .func (.func 102) #[] #[.pointer (some ⟨gg + i, 0, none⟩)]]))
    (HAPP : Hid (∀ (g : Nat) (w : World), w.cell? ⟨g, 0, none⟩ = some (.func (.func (opFn i)) #[] #[]) → g < w.heap.size → Calls Tryz.prog 102 #[.int .i64 x, .int .i64 y, .pointer (some ⟨g, 0, none⟩)] w fun e w' => e = .returned (.tuple #[.int .i64 R.1, .int .i64 R.2]) ∧ Below w.heap.size w w')) :
    Calls Tryz.prog 17 #[.pointer (some ⟨g, 0, none⟩), .int .i64 here, m] w (EvRes (rangedC R) w) := by
  go_enter Tryz.func17, Tryz.ntmps17
  go_wp2_with fail
  refine IH.out.mono ?_
  rintro e w1 ⟨rfl, hb1⟩
  obtain ⟨p1, rfl⟩ := gw_of_below hb1
  clear hb1
  go_wp2_with fail
  refine (IHB.out _ (by (repeat (first | exact Below.refl _ _ | refine Below.drew ?_ | (refine below_gw' ?_ (by first | omega | (simp [go_sem]; done) | (simp [go_sem]; omega)) _) | (refine Below.alloc ?_ (by first | omega | (simp [go_sem]; done) | (simp [go_sem]; omega)) _) | (refine Below.setCell ?_ (by first | omega | (simp [go_sem]; done) | (simp [go_sem]; omega)) _))))).mono ?_
  rintro e w2 ⟨rfl, hb2⟩
  obtain ⟨p2, rfl⟩ := gw_of_below hb2
  clear hb2
  go_wp2_with fail
  have k2 : (gw (gw w p1) p2).cell? ⟨g, 2, none⟩ = some (.string op) := by rw [gw_cell _ _ _ _ (by rw [gw_size]; omega), gw_cell _ _ _ _ hlt]; exact c2
  have hgq : g < (gw (gw w p1) p2).heap.size := by rw [gw_size, gw_size]; omega
  have hfl := fun (a F : Value) (w : World) => (field_op a F w).2
  go_region_held3 (fun w' => w'.cell? ⟨g, 2, none⟩ = some (.string op)) (first | exact k2 | exact k3 | exact k4 | exact k5) (first | (go_at_call 39; refine (operators_any _).mono ?_; rintro e w4 ⟨m4, g4, rfl, hops, hb4⟩; have hlk := run_look w4 m4 g4 op hops.1; rw [HV.out g4] at hlk; have k3 := (hb4.cell (p := ⟨g, 2, none⟩) hgq).trans k2) | (refine (HAPP.out (g4 + i) _ (hops.2 i HI10.out) (cell_lt (hops.2 i HI10.out))).mono ?_; rintro e w5 ⟨rfl, hb5⟩; have k4 := (hb5.cell (p := ⟨g, 2, none⟩) (Nat.lt_of_lt_of_le hgq hb4.size)).trans k3) | (go_at_call 38; refine (pranged_any R.1 R.2 _).mono ?_; rintro e w6 ⟨rfl, hb6⟩; have k5 := (hb6.cell (p := ⟨g, 2, none⟩) (Nat.lt_of_lt_of_le hgq (Nat.le_trans hb4.size hb5.size))).trans k4))
  have hbt : Below w.heap.size w w6 := ((Below.trans (b := (gw (gw w p1) p2).drew) (by (repeat (first | exact Below.refl _ _ | refine Below.drew ?_ | (refine below_gw' ?_ (by first | omega | (simp [go_sem]; done) | (simp [go_sem]; omega)) _) | (refine Below.alloc ?_ (by first | omega | (simp [go_sem]; done) | (simp [go_sem]; omega)) _) | (refine Below.setCell ?_ (by first | omega | (simp [go_sem]; done) | (simp [go_sem]; omega)) _)))) (hb4.mono (by (first | omega | (simp [go_sem]; done) | (simp [go_sem]; omega))))).trans (hb5.mono (Nat.le_trans (by (first | omega | (simp [go_sem]; done) | (simp [go_sem]; omega))) hb4.size))).trans (hb6.mono (Nat.le_trans (Nat.le_trans (by (first | omega | (simp [go_sem]; done) | (simp [go_sem]; omega))) hb4.size) hb5.size))
  have HBT := Lib.hid hbt; clear hbt hb4 hb5 hb6 hlk k3 k4 k5 hops hfl
  go_wp2_with fail
  exact bodyPost_ret (v := .tuple #[.int .i64 (rangedC R).1, .int .i64 (rangedC R).2]) (by simp [results, Tryz.results17, go_sem, *]) rfl ⟨rfl, HBT.out⟩
end Go.Proofs.YtpkbonfbehhbdaaGreatDoor

/- expr.Eval at a binary node. (Written by wip/gen_evalw.py.) -/
namespace Go.Proofs.YtpkbonfbehhbdaaGreatDoor
open Go.RowKit Go.Sort

set_option maxHeartbeats 2000000 in
set_option maxRecDepth 100000 in
theorem eval_bin2 (op : ByteArray) (here : Int) (m : Value) (w : World) (g ga gb i : Nat) (x y : Int) (R : Int × Int) (hlt : g < w.heap.size)
    (c0 : w.cell? ⟨g, 0, none⟩ = some (.int .i64 5)) (_ : w.cell? ⟨g, 1, none⟩ = some (.int .i64 0)) (c2 : w.cell? ⟨g, 2, none⟩ = some (.string op)) (c3 : w.cell? ⟨g, 3, none⟩ = some (.pointer (some ⟨ga, 0, none⟩))) (c4 : w.cell? ⟨g, 4, none⟩ = some (.pointer (some ⟨gb, 0, none⟩)))
    (IH : Hid (Calls Tryz.prog 17 #[.pointer (some ⟨ga, 0, none⟩), .int .i64 here, m] w (EvRes (x, 0) w)))
    (IHB : Hid (∀ w', Below w.heap.size w w' → Calls Tryz.prog 17 #[.pointer (some ⟨gb, 0, none⟩), .int .i64 here, m] w' (EvRes (y, 0) w')))
    (HI10 : Hid (i < 10)) (HV : Hid (∀ gg, opVal gg op = .agg #[.int .i64 (opLv i : Nat), .func (.func 103) #[] #[.pointer (some ⟨gg + i, 0, none⟩)]]))
    (HAPP : Hid (∀ (g : Nat) (w : World), w.cell? ⟨g, 0, none⟩ = some (.func (.func (opFn i)) #[] #[]) → g < w.heap.size → Calls Tryz.prog 103 #[.int .i64 x, .int .i64 y, .pointer (some ⟨g, 0, none⟩)] w fun e w' => e = .returned (.tuple #[.int .i64 R.1, .int .i64 R.2]) ∧ Below w.heap.size w w')) :
    Calls Tryz.prog 17 #[.pointer (some ⟨g, 0, none⟩), .int .i64 here, m] w (EvRes (rangedC R) w) := by
  go_enter Tryz.func17, Tryz.ntmps17
  go_wp2_with fail
  refine IH.out.mono ?_
  rintro e w1 ⟨rfl, hb1⟩
  obtain ⟨p1, rfl⟩ := gw_of_below hb1
  clear hb1
  go_wp2_with fail
  refine (IHB.out _ (by (repeat (first | exact Below.refl _ _ | refine Below.drew ?_ | (refine below_gw' ?_ (by first | omega | (simp [go_sem]; done) | (simp [go_sem]; omega)) _) | (refine Below.alloc ?_ (by first | omega | (simp [go_sem]; done) | (simp [go_sem]; omega)) _) | (refine Below.setCell ?_ (by first | omega | (simp [go_sem]; done) | (simp [go_sem]; omega)) _))))).mono ?_
  rintro e w2 ⟨rfl, hb2⟩
  obtain ⟨p2, rfl⟩ := gw_of_below hb2
  clear hb2
  go_wp2_with fail
  have k2 : (gw (gw w p1) p2).cell? ⟨g, 2, none⟩ = some (.string op) := by rw [gw_cell _ _ _ _ (by rw [gw_size]; omega), gw_cell _ _ _ _ hlt]; exact c2
  have hgq : g < (gw (gw w p1) p2).heap.size := by rw [gw_size, gw_size]; omega
  have hfl := fun (a F : Value) (w : World) => (field_op a F w).2
  go_region_held3 (fun w' => w'.cell? ⟨g, 2, none⟩ = some (.string op)) (first | exact k2 | exact k3 | exact k4 | exact k5) (first | (go_at_call 39; refine (operators_any _).mono ?_; rintro e w4 ⟨m4, g4, rfl, hops, hb4⟩; have hlk := run_look w4 m4 g4 op hops.1; rw [HV.out g4] at hlk; have k3 := (hb4.cell (p := ⟨g, 2, none⟩) hgq).trans k2) | (refine (HAPP.out (g4 + i) _ (hops.2 i HI10.out) (cell_lt (hops.2 i HI10.out))).mono ?_; rintro e w5 ⟨rfl, hb5⟩; have k4 := (hb5.cell (p := ⟨g, 2, none⟩) (Nat.lt_of_lt_of_le hgq hb4.size)).trans k3) | (go_at_call 38; refine (pranged_any R.1 R.2 _).mono ?_; rintro e w6 ⟨rfl, hb6⟩; have k5 := (hb6.cell (p := ⟨g, 2, none⟩) (Nat.lt_of_lt_of_le hgq (Nat.le_trans hb4.size hb5.size))).trans k4))
  have hbt : Below w.heap.size w w6 := ((Below.trans (b := (gw (gw w p1) p2).drew) (by (repeat (first | exact Below.refl _ _ | refine Below.drew ?_ | (refine below_gw' ?_ (by first | omega | (simp [go_sem]; done) | (simp [go_sem]; omega)) _) | (refine Below.alloc ?_ (by first | omega | (simp [go_sem]; done) | (simp [go_sem]; omega)) _) | (refine Below.setCell ?_ (by first | omega | (simp [go_sem]; done) | (simp [go_sem]; omega)) _)))) (hb4.mono (by (first | omega | (simp [go_sem]; done) | (simp [go_sem]; omega))))).trans (hb5.mono (Nat.le_trans (by (first | omega | (simp [go_sem]; done) | (simp [go_sem]; omega))) hb4.size))).trans (hb6.mono (Nat.le_trans (Nat.le_trans (by (first | omega | (simp [go_sem]; done) | (simp [go_sem]; omega))) hb4.size) hb5.size))
  have HBT := Lib.hid hbt; clear hbt hb4 hb5 hb6 hlk k3 k4 k5 hops hfl
  go_wp2_with fail
  exact bodyPost_ret (v := .tuple #[.int .i64 (rangedC R).1, .int .i64 (rangedC R).2]) (by simp [results, Tryz.results17, go_sem, *]) rfl ⟨rfl, HBT.out⟩
end Go.Proofs.YtpkbonfbehhbdaaGreatDoor

/- expr.Eval at a binary node. (Written by wip/gen_evalw.py.) -/
namespace Go.Proofs.YtpkbonfbehhbdaaGreatDoor
open Go.RowKit Go.Sort

set_option maxHeartbeats 2000000 in
set_option maxRecDepth 100000 in
theorem eval_bin3 (op : ByteArray) (here : Int) (m : Value) (w : World) (g ga gb i : Nat) (x y : Int) (R : Int × Int) (hlt : g < w.heap.size)
    (c0 : w.cell? ⟨g, 0, none⟩ = some (.int .i64 5)) (_ : w.cell? ⟨g, 1, none⟩ = some (.int .i64 0)) (c2 : w.cell? ⟨g, 2, none⟩ = some (.string op)) (c3 : w.cell? ⟨g, 3, none⟩ = some (.pointer (some ⟨ga, 0, none⟩))) (c4 : w.cell? ⟨g, 4, none⟩ = some (.pointer (some ⟨gb, 0, none⟩)))
    (IH : Hid (Calls Tryz.prog 17 #[.pointer (some ⟨ga, 0, none⟩), .int .i64 here, m] w (EvRes (x, 0) w)))
    (IHB : Hid (∀ w', Below w.heap.size w w' → Calls Tryz.prog 17 #[.pointer (some ⟨gb, 0, none⟩), .int .i64 here, m] w' (EvRes (y, 0) w')))
    (HI10 : Hid (i < 10)) (HV : Hid (∀ gg, opVal gg op = .agg #[.int .i64 (opLv i : Nat), .func (.func 104) #[] #[.pointer (some ⟨gg + i, 0, none⟩)]]))
    (HAPP : Hid (∀ (g : Nat) (w : World), w.cell? ⟨g, 0, none⟩ = some (.func (.func (opFn i)) #[] #[]) → g < w.heap.size → Calls Tryz.prog 104 #[.int .i64 x, .int .i64 y, .pointer (some ⟨g, 0, none⟩)] w fun e w' => e = .returned (.tuple #[.int .i64 R.1, .int .i64 R.2]) ∧ Below w.heap.size w w')) :
    Calls Tryz.prog 17 #[.pointer (some ⟨g, 0, none⟩), .int .i64 here, m] w (EvRes (rangedC R) w) := by
  go_enter Tryz.func17, Tryz.ntmps17
  go_wp2_with fail
  refine IH.out.mono ?_
  rintro e w1 ⟨rfl, hb1⟩
  obtain ⟨p1, rfl⟩ := gw_of_below hb1
  clear hb1
  go_wp2_with fail
  refine (IHB.out _ (by (repeat (first | exact Below.refl _ _ | refine Below.drew ?_ | (refine below_gw' ?_ (by first | omega | (simp [go_sem]; done) | (simp [go_sem]; omega)) _) | (refine Below.alloc ?_ (by first | omega | (simp [go_sem]; done) | (simp [go_sem]; omega)) _) | (refine Below.setCell ?_ (by first | omega | (simp [go_sem]; done) | (simp [go_sem]; omega)) _))))).mono ?_
  rintro e w2 ⟨rfl, hb2⟩
  obtain ⟨p2, rfl⟩ := gw_of_below hb2
  clear hb2
  go_wp2_with fail
  have k2 : (gw (gw w p1) p2).cell? ⟨g, 2, none⟩ = some (.string op) := by rw [gw_cell _ _ _ _ (by rw [gw_size]; omega), gw_cell _ _ _ _ hlt]; exact c2
  have hgq : g < (gw (gw w p1) p2).heap.size := by rw [gw_size, gw_size]; omega
  have hfl := fun (a F : Value) (w : World) => (field_op a F w).2
  go_region_held3 (fun w' => w'.cell? ⟨g, 2, none⟩ = some (.string op)) (first | exact k2 | exact k3 | exact k4 | exact k5) (first | (go_at_call 39; refine (operators_any _).mono ?_; rintro e w4 ⟨m4, g4, rfl, hops, hb4⟩; have hlk := run_look w4 m4 g4 op hops.1; rw [HV.out g4] at hlk; have k3 := (hb4.cell (p := ⟨g, 2, none⟩) hgq).trans k2) | (refine (HAPP.out (g4 + i) _ (hops.2 i HI10.out) (cell_lt (hops.2 i HI10.out))).mono ?_; rintro e w5 ⟨rfl, hb5⟩; have k4 := (hb5.cell (p := ⟨g, 2, none⟩) (Nat.lt_of_lt_of_le hgq hb4.size)).trans k3) | (go_at_call 38; refine (pranged_any R.1 R.2 _).mono ?_; rintro e w6 ⟨rfl, hb6⟩; have k5 := (hb6.cell (p := ⟨g, 2, none⟩) (Nat.lt_of_lt_of_le hgq (Nat.le_trans hb4.size hb5.size))).trans k4))
  have hbt : Below w.heap.size w w6 := ((Below.trans (b := (gw (gw w p1) p2).drew) (by (repeat (first | exact Below.refl _ _ | refine Below.drew ?_ | (refine below_gw' ?_ (by first | omega | (simp [go_sem]; done) | (simp [go_sem]; omega)) _) | (refine Below.alloc ?_ (by first | omega | (simp [go_sem]; done) | (simp [go_sem]; omega)) _) | (refine Below.setCell ?_ (by first | omega | (simp [go_sem]; done) | (simp [go_sem]; omega)) _)))) (hb4.mono (by (first | omega | (simp [go_sem]; done) | (simp [go_sem]; omega))))).trans (hb5.mono (Nat.le_trans (by (first | omega | (simp [go_sem]; done) | (simp [go_sem]; omega))) hb4.size))).trans (hb6.mono (Nat.le_trans (Nat.le_trans (by (first | omega | (simp [go_sem]; done) | (simp [go_sem]; omega))) hb4.size) hb5.size))
  have HBT := Lib.hid hbt; clear hbt hb4 hb5 hb6 hlk k3 k4 k5 hops hfl
  go_wp2_with fail
  exact bodyPost_ret (v := .tuple #[.int .i64 (rangedC R).1, .int .i64 (rangedC R).2]) (by simp [results, Tryz.results17, go_sem, *]) rfl ⟨rfl, HBT.out⟩
end Go.Proofs.YtpkbonfbehhbdaaGreatDoor
