/- Joined texts: REval17, EvalB1, EvalB2, EvalB3. -/
import Derived.Test.YtnjpfhihbjihbaaGreatDoorS18
import Derived.Test.YtnjpfhihbjihbaaGreatDoorS31
/- breadboardref17.Eval. -/
namespace Go.Proofs.YtnjpfhihbjihbaaGreatDoor
open Go.RowKit Go.Sort

theorem reval_nil (here : Int) (m : Value) (w : World) : Calls Tryz.prog 14 #[.pointer none, .int .i64 here, m] w (EvRes (0, 1) w) := by
  go_enter Tryz.func14, Tryz.ntmps14
  go_wp2_with fail
  exact bodyPost_ret (v := .tuple #[.int .i64 0, .int .i64 1]) (by simp [results, Tryz.results14, go_sem]) rfl ⟨rfl, by (repeat (first | exact Below.refl _ _ | refine Below.drew ?_ | (refine below_gw' ?_ (by first | omega | (simp [go_sem]; done) | (simp [go_sem]; omega)) _) | (refine Below.alloc ?_ (by first | omega | (simp [go_sem]; done) | (simp [go_sem]; omega)) _) | (refine Below.setCell ?_ (by first | omega | (simp [go_sem]; done) | (simp [go_sem]; omega)) _)))⟩
set_option maxHeartbeats 4000000 in
set_option maxRecDepth 100000 in
theorem reval_any (l : List (ByteArray × Int)) (here : Int) (hl : l.length ≤ 1000000) (he : ∀ s n, envL l s = some n → -2147483648 ≤ n ∧ n ≤ 2147483647) (hh : -2147483648 ≤ here ∧ here ≤ 2147483647) (m : Value) :
    ∀ (x : Ex), x.good → ∀ (v : Value) (w : World), NodeAt 89 0 w x v → Row w m l.length (valc l) → Calls Tryz.prog 14 #[v, .int .i64 here, m] w (EvRes (x.eval (envL l) here) w)
  | .num n, hg, v, w, hn, hm => by
    obtain ⟨g, _, rfl, hb⟩ := hn
    obtain ⟨hlt, c0, c1, c2, c3, c4⟩ := node_cells hb
    clear hm hb he
    go_enter Tryz.func14, Tryz.ntmps14
    go_wp2_with fail
    exact bodyPost_ret (v := .tuple #[.int .i64 n, .int .i64 0]) (by simp [results, Tryz.results14, go_sem, *]) rfl ⟨rfl, by (repeat (first | exact Below.refl _ _ | refine Below.drew ?_ | (refine below_gw' ?_ (by first | omega | (simp [go_sem]; done) | (simp [go_sem]; omega)) _) | (refine Below.alloc ?_ (by first | omega | (simp [go_sem]; done) | (simp [go_sem]; omega)) _) | (refine Below.setCell ?_ (by first | omega | (simp [go_sem]; done) | (simp [go_sem]; omega)) _)))⟩
  | .sym s, hg, v, w, hn, hm => by
    obtain ⟨g, _, rfl, hb⟩ := hn
    obtain ⟨hlt, c0, c1, c2, c3, c4⟩ := node_cells hb
    have hlk := rfind_any l s m w hm hl
    clear hm hb he
    unfold Ex.eval
    rcases hs : envL l s with _ | n
    · rw [hs] at hlk
      simp only [Option.getD_none, Option.isSome_none] at hlk
      have HLK := Lib.hid hlk; clear hs hlk
      go_enter Tryz.func14, Tryz.ntmps14
      go_wp2_with fail
      (with_reducible refine HLK.out.mono ?_)
      rintro e w1 ⟨rfl, hb1⟩
      obtain ⟨p1, rfl⟩ := gw_of_below hb1
      clear hb1
      go_wp2_with fail
      exact bodyPost_ret (v := .tuple #[.int .i64 0, .int .i64 13]) (by simp [results, Tryz.results14, go_sem, *]) rfl ⟨rfl, by (repeat (first | exact Below.refl _ _ | refine Below.drew ?_ | (refine below_gw' ?_ (by first | omega | (simp [go_sem]; done) | (simp [go_sem]; omega)) _) | (refine Below.alloc ?_ (by first | omega | (simp [go_sem]; done) | (simp [go_sem]; omega)) _) | (refine Below.setCell ?_ (by first | omega | (simp [go_sem]; done) | (simp [go_sem]; omega)) _)))⟩
    · rw [hs] at hlk
      simp only [Option.getD_some, Option.isSome_some] at hlk
      have HLK := Lib.hid hlk; clear hs hlk
      go_enter Tryz.func14, Tryz.ntmps14
      go_wp2_with fail
      (with_reducible refine HLK.out.mono ?_)
      rintro e w1 ⟨rfl, hb1⟩
      obtain ⟨p1, rfl⟩ := gw_of_below hb1
      clear hb1
      go_wp2_with fail
      exact bodyPost_ret (v := .tuple #[.int .i64 n, .int .i64 0]) (by simp [results, Tryz.results14, go_sem, *]) rfl ⟨rfl, by (repeat (first | exact Below.refl _ _ | refine Below.drew ?_ | (refine below_gw' ?_ (by first | omega | (simp [go_sem]; done) | (simp [go_sem]; omega)) _) | (refine Below.alloc ?_ (by first | omega | (simp [go_sem]; done) | (simp [go_sem]; omega)) _) | (refine Below.setCell ?_ (by first | omega | (simp [go_sem]; done) | (simp [go_sem]; omega)) _)))⟩
  | .here, hg, v, w, hn, hm => by
    obtain ⟨g, _, rfl, hb⟩ := hn
    obtain ⟨hlt, c0, c1, c2, c3, c4⟩ := node_cells hb
    clear hm hb he
    go_enter Tryz.func14, Tryz.ntmps14
    go_wp2_with fail
    exact bodyPost_ret (v := .tuple #[.int .i64 here, .int .i64 0]) (by simp [results, Tryz.results14, go_sem, *]) rfl ⟨rfl, by (repeat (first | exact Below.refl _ _ | refine Below.drew ?_ | (refine below_gw' ?_ (by first | omega | (simp [go_sem]; done) | (simp [go_sem]; omega)) _) | (refine Below.alloc ?_ (by first | omega | (simp [go_sem]; done) | (simp [go_sem]; omega)) _) | (refine Below.setCell ?_ (by first | omega | (simp [go_sem]; done) | (simp [go_sem]; omega)) _)))⟩
  | .un op a, hg, v, w, hn, hm => by
    obtain ⟨g, va, _, rfl, hb, ha⟩ := hn
    obtain ⟨hlt, c0, c1, c2, c3, c4⟩ := node_cells hb
    have ih := reval_any l here hl he hh m a hg.2 va w ha hm
    have hin := eval_in (envL l) here he hh a hg.2
    obtain ⟨ga, rfl, hga⟩ := ha.ptr
    unfold Ex.eval
    generalize a.eval (envL l) here = r at ih hin ⊢
    obtain ⟨x, c⟩ := r
    dsimp only at hin
    obtain ⟨hi1, hi2⟩ := hin
    have hop := hg.1
    have IH := Lib.hid ih; clear ih hm hb he ha hg
    by_cases hc : c = 0
    · subst hc
      rw [if_pos rfl]
      have htst : (op.toList == [45]) = true ∧ unEval op x = -x ∨ (op.toList == [45]) = false ∧ (op.toList == [126]) = true ∧ unEval op x = -x - 1 ∨ (op.toList == [45]) = false ∧ (op.toList == [126]) = false ∧ unEval op x = x := by
        rcases hop with h | h | h <;> simp [unEval, h]
      clear hop
      rcases htst with ⟨h1, hu⟩ | ⟨h1, h2, hu⟩ | ⟨h1, h2, hu⟩
      · rw [hu]
        clear hu
        go_enter Tryz.func14, Tryz.ntmps14
        go_wp2_with fail
        (with_reducible refine IH.out.mono ?_)
        rintro e w1 ⟨rfl, hb1⟩
        obtain ⟨p1, rfl⟩ := gw_of_below hb1
        clear hb1
        go_wp2_with fail
        (with_reducible refine (rranged_any _ _).mono ?_)
        rintro e w2 ⟨rfl, rfl⟩
        go_wp2_with fail
        exact bodyPost_ret (v := .tuple #[.int .i64 (rangedP (-x)).1, .int .i64 (rangedP (-x)).2]) (by simp [results, Tryz.results14, go_sem, *]) rfl ⟨rfl, by (repeat (first | exact Below.refl _ _ | refine Below.drew ?_ | (refine below_gw' ?_ (by first | omega | (simp [go_sem]; done) | (simp [go_sem]; omega)) _) | (refine Below.alloc ?_ (by first | omega | (simp [go_sem]; done) | (simp [go_sem]; omega)) _) | (refine Below.setCell ?_ (by first | omega | (simp [go_sem]; done) | (simp [go_sem]; omega)) _)))⟩
      · rw [hu]
        clear hu
        go_enter Tryz.func14, Tryz.ntmps14
        go_wp2_with fail
        (with_reducible refine IH.out.mono ?_)
        rintro e w1 ⟨rfl, hb1⟩
        obtain ⟨p1, rfl⟩ := gw_of_below hb1
        clear hb1
        go_wp2_with fail
        (with_reducible refine (rranged_any _ _).mono ?_)
        rintro e w2 ⟨rfl, rfl⟩
        go_wp2_with fail
        exact bodyPost_ret (v := .tuple #[.int .i64 (rangedP (-x - 1)).1, .int .i64 (rangedP (-x - 1)).2]) (by simp [results, Tryz.results14, go_sem, *]) rfl ⟨rfl, by (repeat (first | exact Below.refl _ _ | refine Below.drew ?_ | (refine below_gw' ?_ (by first | omega | (simp [go_sem]; done) | (simp [go_sem]; omega)) _) | (refine Below.alloc ?_ (by first | omega | (simp [go_sem]; done) | (simp [go_sem]; omega)) _) | (refine Below.setCell ?_ (by first | omega | (simp [go_sem]; done) | (simp [go_sem]; omega)) _)))⟩
      · rw [hu, rangedP_same hi1 hi2]
        clear hu
        go_enter Tryz.func14, Tryz.ntmps14
        go_wp2_with fail
        (with_reducible refine IH.out.mono ?_)
        rintro e w1 ⟨rfl, hb1⟩
        obtain ⟨p1, rfl⟩ := gw_of_below hb1
        clear hb1
        go_wp2_with fail
        exact bodyPost_ret (v := .tuple #[.int .i64 x, .int .i64 0]) (by simp [results, Tryz.results14, go_sem, *]) rfl ⟨rfl, by (repeat (first | exact Below.refl _ _ | refine Below.drew ?_ | (refine below_gw' ?_ (by first | omega | (simp [go_sem]; done) | (simp [go_sem]; omega)) _) | (refine Below.alloc ?_ (by first | omega | (simp [go_sem]; done) | (simp [go_sem]; omega)) _) | (refine Below.setCell ?_ (by first | omega | (simp [go_sem]; done) | (simp [go_sem]; omega)) _)))⟩
    · have hcb : (c == 0) = false := by simpa using hc
      have hcn : (c != 0) = true := by simpa using hc
      rw [if_neg hc]
      clear hop
      go_enter Tryz.func14, Tryz.ntmps14
      go_wp2_with fail
      (with_reducible refine IH.out.mono ?_)
      rintro e w1 ⟨rfl, hb1⟩
      obtain ⟨p1, rfl⟩ := gw_of_below hb1
      clear hb1
      go_wp2_with fail
      exact bodyPost_ret (v := .tuple #[.int .i64 0, .int .i64 c]) (by simp [results, Tryz.results14, go_sem, *]) rfl ⟨rfl, by (repeat (first | exact Below.refl _ _ | refine Below.drew ?_ | (refine below_gw' ?_ (by first | omega | (simp [go_sem]; done) | (simp [go_sem]; omega)) _) | (refine Below.alloc ?_ (by first | omega | (simp [go_sem]; done) | (simp [go_sem]; omega)) _) | (refine Below.setCell ?_ (by first | omega | (simp [go_sem]; done) | (simp [go_sem]; omega)) _)))⟩
  | .bin op a b, hg, v, w, hn, hm => by
    obtain ⟨g, va, vb, _, rfl, hb, ha, hbb⟩ := hn
    obtain ⟨hlt, c0, c1, c2, c3, c4⟩ := node_cells hb
    have ih := reval_any l here hl he hh m a hg.2.1 va w ha hm
    have ihb := fun w' (h : Below w.heap.size w w') => reval_any l here hl he hh m b hg.2.2 vb w' (hbb.below h) (hm.below h)
    have hin := eval_in (envL l) here he hh a hg.2.1
    have hinb := eval_in (envL l) here he hh b hg.2.2
    obtain ⟨ga, rfl, hga⟩ := ha.ptr
    obtain ⟨gb, rfl, hgb⟩ := hbb.ptr
    unfold Ex.eval
    generalize a.eval (envL l) here = r at ih hin ⊢
    generalize b.eval (envL l) here = rb at ihb hinb ⊢
    obtain ⟨x, c⟩ := r
    obtain ⟨y, d⟩ := rb
    dsimp only at hin hinb
    have hop := hg.1
    have IH := Lib.hid ih; clear ih hm he ha hg
    have IHB := Lib.hid ihb; clear ihb hbb hb
    have hlt1 : ∀ p : Regrown, g < w.heap.size + p.os.size := fun p => by omega
    by_cases hc : c = 0
    · subst hc
      rw [if_pos rfl]
      by_cases hd : d = 0
      · subst hd
        rw [if_pos rfl]
        obtain ⟨i, hi⟩ : ∃ i, opIdx op = some i := by
          rw [opLv_eq] at hop
          rcases h : opIdx op with _ | i
          · rw [h] at hop; exact absurd rfl hop
          · exact ⟨i, rfl⟩
        have happ := fun w => rapply_any op i hi x y w hin hinb
        generalize opEval op x y = R at happ ⊢
        have HAPP := Lib.hid happ; clear happ hi hop hin hinb
        go_enter Tryz.func14, Tryz.ntmps14
        go_wp2_with fail
        (with_reducible refine IH.out.mono ?_)
        rintro e w1 ⟨rfl, hb1⟩
        obtain ⟨p1, rfl⟩ := gw_of_below hb1
        clear hb1
        have hg1 := hlt1 p1
        go_wp2_with fail
        (with_reducible refine (IHB.out _ (by (repeat (first | exact Below.refl _ _ | refine Below.drew ?_ | (refine below_gw' ?_ (by first | omega | (simp [go_sem]; done) | (simp [go_sem]; omega)) _) | (refine Below.alloc ?_ (by first | omega | (simp [go_sem]; done) | (simp [go_sem]; omega)) _) | (refine Below.setCell ?_ (by first | omega | (simp [go_sem]; done) | (simp [go_sem]; omega)) _))))).mono ?_)
        rintro e w2 ⟨rfl, hb2⟩
        obtain ⟨p2, rfl⟩ := gw_of_below hb2
        clear hb2
        have hg2 : g < w.heap.size + p1.os.size + p2.os.size := by omega
        go_wp2_with fail
        (with_reducible refine (HAPP.out _).mono ?_)
        rintro e w3 ⟨rfl, rfl⟩
        go_wp2_with fail
        exact bodyPost_ret (v := .tuple #[.int .i64 R.1, .int .i64 R.2]) (by simp [results, Tryz.results14, go_sem, *]) rfl ⟨rfl, by (repeat (first | exact Below.refl _ _ | refine Below.drew ?_ | (refine below_gw' ?_ (by first | omega | (simp [go_sem]; done) | (simp [go_sem]; omega)) _) | (refine Below.alloc ?_ (by first | omega | (simp [go_sem]; done) | (simp [go_sem]; omega)) _) | (refine Below.setCell ?_ (by first | omega | (simp [go_sem]; done) | (simp [go_sem]; omega)) _)))⟩
      · have hcb : (d == 0) = false := by simpa using hd
        have hcn : (d != 0) = true := by simpa using hd
        rw [if_neg hd]
        clear hop hin hinb
        go_enter Tryz.func14, Tryz.ntmps14
        go_wp2_with fail
        (with_reducible refine IH.out.mono ?_)
        rintro e w1 ⟨rfl, hb1⟩
        obtain ⟨p1, rfl⟩ := gw_of_below hb1
        clear hb1
        have hg1 := hlt1 p1
        go_wp2_with fail
        (with_reducible refine (IHB.out _ (by (repeat (first | exact Below.refl _ _ | refine Below.drew ?_ | (refine below_gw' ?_ (by first | omega | (simp [go_sem]; done) | (simp [go_sem]; omega)) _) | (refine Below.alloc ?_ (by first | omega | (simp [go_sem]; done) | (simp [go_sem]; omega)) _) | (refine Below.setCell ?_ (by first | omega | (simp [go_sem]; done) | (simp [go_sem]; omega)) _))))).mono ?_)
        rintro e w2 ⟨rfl, hb2⟩
        obtain ⟨p2, rfl⟩ := gw_of_below hb2
        clear hb2
        go_wp2_with fail
        exact bodyPost_ret (v := .tuple #[.int .i64 0, .int .i64 d]) (by simp [results, Tryz.results14, go_sem, *]) rfl ⟨rfl, by (repeat (first | exact Below.refl _ _ | refine Below.drew ?_ | (refine below_gw' ?_ (by first | omega | (simp [go_sem]; done) | (simp [go_sem]; omega)) _) | (refine Below.alloc ?_ (by first | omega | (simp [go_sem]; done) | (simp [go_sem]; omega)) _) | (refine Below.setCell ?_ (by first | omega | (simp [go_sem]; done) | (simp [go_sem]; omega)) _)))⟩
    · have hcb : (c == 0) = false := by simpa using hc
      have hcn : (c != 0) = true := by simpa using hc
      rw [if_neg hc]
      clear hop hin hinb
      go_enter Tryz.func14, Tryz.ntmps14
      go_wp2_with fail
      (with_reducible refine IH.out.mono ?_)
      rintro e w1 ⟨rfl, hb1⟩
      obtain ⟨p1, rfl⟩ := gw_of_below hb1
      clear hb1
      go_wp2_with fail
      exact bodyPost_ret (v := .tuple #[.int .i64 0, .int .i64 c]) (by simp [results, Tryz.results14, go_sem, *]) rfl ⟨rfl, by (repeat (first | exact Below.refl _ _ | refine Below.drew ?_ | (refine below_gw' ?_ (by first | omega | (simp [go_sem]; done) | (simp [go_sem]; omega)) _) | (refine Below.alloc ?_ (by first | omega | (simp [go_sem]; done) | (simp [go_sem]; omega)) _) | (refine Below.setCell ?_ (by first | omega | (simp [go_sem]; done) | (simp [go_sem]; omega)) _)))⟩
end Go.Proofs.YtnjpfhihbjihbaaGreatDoor

/- expr.Eval at a binary node. (Written by wip/gen_evalw.py.) -/
namespace Go.Proofs.YtnjpfhihbjihbaaGreatDoor
open Go.RowKit Go.Sort

set_option maxHeartbeats 2000000 in
set_option maxRecDepth 100000 in
theorem eval_bin1 (op : ByteArray) (here : Int) (m : Value) (w : World) (g ga gb i : Nat) (x y : Int) (R : Int × Int) (hlt : g < w.heap.size)
    (c0 : w.cell? ⟨g, 0, none⟩ = some (.int .i64 5)) (_ : w.cell? ⟨g, 1, none⟩ = some (.int .i64 0)) (c2 : w.cell? ⟨g, 2, none⟩ = some (.string op)) (c3 : w.cell? ⟨g, 3, none⟩ = some (.pointer (some ⟨ga, 0, none⟩))) (c4 : w.cell? ⟨g, 4, none⟩ = some (.pointer (some ⟨gb, 0, none⟩)))
    (IH : Hid (Calls Tryz.prog 37 #[.pointer (some ⟨ga, 0, none⟩), .int .i64 here, m] w (EvRes (x, 0) w)))
    (IHB : Hid (∀ w', Below w.heap.size w w' → Calls Tryz.prog 37 #[.pointer (some ⟨gb, 0, none⟩), .int .i64 here, m] w' (EvRes (y, 0) w')))
    (HI10 : Hid (i < 10)) (HV : Hid (∀ gg, opVal gg op = .agg #[.int .i64 (opLv i : Nat), .func (.func 140) #[] #[.pointer (some ⟨gg + i, 0, none⟩)]]))
    (HAPP : Hid (∀ (g : Nat) (w : World), w.cell? ⟨g, 0, none⟩ = some (.func (.func (opFn i)) #[] #[]) → g < w.heap.size → Calls Tryz.prog 140 #[.int .i64 x, .int .i64 y, .pointer (some ⟨g, 0, none⟩)] w fun e w' => e = .returned (.tuple #[.int .i64 R.1, .int .i64 R.2]) ∧ Below w.heap.size w w')) :
    Calls Tryz.prog 37 #[.pointer (some ⟨g, 0, none⟩), .int .i64 here, m] w (EvRes (rangedC R) w) := by
  go_enter Tryz.func37, Tryz.ntmps37
  go_wp2_with fail
  refine IH.out.mono ?_
  rintro e w1 ⟨rfl, hb1⟩
  obtain ⟨p1, rfl⟩ := gw_of_below hb1
  clear hb1
  go_wp2_with fail
  refine (IHB.out _ (by (repeat (first | exact Below.refl _ _ | refine Below.drew ?_ | (refine below_gw' ?_ (by first | omega | (simp [go_sem]; done) | (simp [go_sem]; omega)) _) | (refine Below.alloc ?_ (by first | omega | (simp [go_sem]; done) | (simp [go_sem]; omega)) _) | (refine Below.setCell ?_ (by first | omega | (simp [go_sem]; done) | (simp [go_sem]; omega)) _))))).mono ?_
  rintro e w2 ⟨rfl, hb2⟩
  obtain ⟨p2, rfl⟩ := gw_of_below hb2
  clear hb2
  go_wp2_with fail
  have k2 : (gw (gw w p1) p2).cell? ⟨g, 2, none⟩ = some (.string op) := by rw [gw_cell _ _ _ _ (by rw [gw_size]; omega), gw_cell _ _ _ _ hlt]; exact c2
  have hgq : g < (gw (gw w p1) p2).heap.size := by rw [gw_size, gw_size]; omega
  have hfl := fun (a F : Value) (w : World) => (field_op a F w).2
  go_region_held3 (fun w' => w'.cell? ⟨g, 2, none⟩ = some (.string op)) (first | exact k2 | exact k3 | exact k4 | exact k5) (first | (go_at_call 66; refine (operators_any _).mono ?_; rintro e w4 ⟨m4, g4, rfl, hops, hb4⟩; have hlk := run_look w4 m4 g4 op hops.1; rw [HV.out g4] at hlk; have k3 := (hb4.cell (p := ⟨g, 2, none⟩) hgq).trans k2) | (refine (HAPP.out (g4 + i) _ (hops.2 i HI10.out) (cell_lt (hops.2 i HI10.out))).mono ?_; rintro e w5 ⟨rfl, hb5⟩; have k4 := (hb5.cell (p := ⟨g, 2, none⟩) (Nat.lt_of_lt_of_le hgq hb4.size)).trans k3) | (go_at_call 65; refine (pranged_any R.1 R.2 _).mono ?_; rintro e w6 ⟨rfl, hb6⟩; have k5 := (hb6.cell (p := ⟨g, 2, none⟩) (Nat.lt_of_lt_of_le hgq (Nat.le_trans hb4.size hb5.size))).trans k4))
  have hbt : Below w.heap.size w w6 := ((Below.trans (b := (gw (gw w p1) p2).drew) (by (repeat (first | exact Below.refl _ _ | refine Below.drew ?_ | (refine below_gw' ?_ (by first | omega | (simp [go_sem]; done) | (simp [go_sem]; omega)) _) | (refine Below.alloc ?_ (by first | omega | (simp [go_sem]; done) | (simp [go_sem]; omega)) _) | (refine Below.setCell ?_ (by first | omega | (simp [go_sem]; done) | (simp [go_sem]; omega)) _)))) (hb4.mono (by (first | omega | (simp [go_sem]; done) | (simp [go_sem]; omega))))).trans (hb5.mono (Nat.le_trans (by (first | omega | (simp [go_sem]; done) | (simp [go_sem]; omega))) hb4.size))).trans (hb6.mono (Nat.le_trans (Nat.le_trans (by (first | omega | (simp [go_sem]; done) | (simp [go_sem]; omega))) hb4.size) hb5.size))
  have HBT := Lib.hid hbt; clear hbt hb4 hb5 hb6 hlk k3 k4 k5 hops hfl
  go_wp2_with fail
  exact bodyPost_ret (v := .tuple #[.int .i64 (rangedC R).1, .int .i64 (rangedC R).2]) (by simp [results, Tryz.results37, go_sem, *]) rfl ⟨rfl, HBT.out⟩
end Go.Proofs.YtnjpfhihbjihbaaGreatDoor

/- expr.Eval at a binary node. (Written by wip/gen_evalw.py.) -/
namespace Go.Proofs.YtnjpfhihbjihbaaGreatDoor
open Go.RowKit Go.Sort

set_option maxHeartbeats 2000000 in
set_option maxRecDepth 100000 in
theorem eval_bin2 (op : ByteArray) (here : Int) (m : Value) (w : World) (g ga gb i : Nat) (x y : Int) (R : Int × Int) (hlt : g < w.heap.size)
    (c0 : w.cell? ⟨g, 0, none⟩ = some (.int .i64 5)) (_ : w.cell? ⟨g, 1, none⟩ = some (.int .i64 0)) (c2 : w.cell? ⟨g, 2, none⟩ = some (.string op)) (c3 : w.cell? ⟨g, 3, none⟩ = some (.pointer (some ⟨ga, 0, none⟩))) (c4 : w.cell? ⟨g, 4, none⟩ = some (.pointer (some ⟨gb, 0, none⟩)))
    (IH : Hid (Calls Tryz.prog 37 #[.pointer (some ⟨ga, 0, none⟩), .int .i64 here, m] w (EvRes (x, 0) w)))
    (IHB : Hid (∀ w', Below w.heap.size w w' → Calls Tryz.prog 37 #[.pointer (some ⟨gb, 0, none⟩), .int .i64 here, m] w' (EvRes (y, 0) w')))
    (HI10 : Hid (i < 10)) (HV : Hid (∀ gg, opVal gg op = .agg #[.int .i64 (opLv i : Nat), .func (.func 141) #[] #[.pointer (some ⟨gg + i, 0, none⟩)]]))
    (HAPP : Hid (∀ (g : Nat) (w : World), w.cell? ⟨g, 0, none⟩ = some (.func (.func (opFn i)) #[] #[]) → g < w.heap.size → Calls Tryz.prog 141 #[.int .i64 x, .int .i64 y, .pointer (some ⟨g, 0, none⟩)] w fun e w' => e = .returned (.tuple #[.int .i64 R.1, .int .i64 R.2]) ∧ Below w.heap.size w w')) :
    Calls Tryz.prog 37 #[.pointer (some ⟨g, 0, none⟩), .int .i64 here, m] w (EvRes (rangedC R) w) := by
  go_enter Tryz.func37, Tryz.ntmps37
  go_wp2_with fail
  refine IH.out.mono ?_
  rintro e w1 ⟨rfl, hb1⟩
  obtain ⟨p1, rfl⟩ := gw_of_below hb1
  clear hb1
  go_wp2_with fail
  refine (IHB.out _ (by (repeat (first | exact Below.refl _ _ | refine Below.drew ?_ | (refine below_gw' ?_ (by first | omega | (simp [go_sem]; done) | (simp [go_sem]; omega)) _) | (refine Below.alloc ?_ (by first | omega | (simp [go_sem]; done) | (simp [go_sem]; omega)) _) | (refine Below.setCell ?_ (by first | omega | (simp [go_sem]; done) | (simp [go_sem]; omega)) _))))).mono ?_
  rintro e w2 ⟨rfl, hb2⟩
  obtain ⟨p2, rfl⟩ := gw_of_below hb2
  clear hb2
  go_wp2_with fail
  have k2 : (gw (gw w p1) p2).cell? ⟨g, 2, none⟩ = some (.string op) := by rw [gw_cell _ _ _ _ (by rw [gw_size]; omega), gw_cell _ _ _ _ hlt]; exact c2
  have hgq : g < (gw (gw w p1) p2).heap.size := by rw [gw_size, gw_size]; omega
  have hfl := fun (a F : Value) (w : World) => (field_op a F w).2
  go_region_held3 (fun w' => w'.cell? ⟨g, 2, none⟩ = some (.string op)) (first | exact k2 | exact k3 | exact k4 | exact k5) (first | (go_at_call 66; refine (operators_any _).mono ?_; rintro e w4 ⟨m4, g4, rfl, hops, hb4⟩; have hlk := run_look w4 m4 g4 op hops.1; rw [HV.out g4] at hlk; have k3 := (hb4.cell (p := ⟨g, 2, none⟩) hgq).trans k2) | (refine (HAPP.out (g4 + i) _ (hops.2 i HI10.out) (cell_lt (hops.2 i HI10.out))).mono ?_; rintro e w5 ⟨rfl, hb5⟩; have k4 := (hb5.cell (p := ⟨g, 2, none⟩) (Nat.lt_of_lt_of_le hgq hb4.size)).trans k3) | (go_at_call 65; refine (pranged_any R.1 R.2 _).mono ?_; rintro e w6 ⟨rfl, hb6⟩; have k5 := (hb6.cell (p := ⟨g, 2, none⟩) (Nat.lt_of_lt_of_le hgq (Nat.le_trans hb4.size hb5.size))).trans k4))
  have hbt : Below w.heap.size w w6 := ((Below.trans (b := (gw (gw w p1) p2).drew) (by (repeat (first | exact Below.refl _ _ | refine Below.drew ?_ | (refine below_gw' ?_ (by first | omega | (simp [go_sem]; done) | (simp [go_sem]; omega)) _) | (refine Below.alloc ?_ (by first | omega | (simp [go_sem]; done) | (simp [go_sem]; omega)) _) | (refine Below.setCell ?_ (by first | omega | (simp [go_sem]; done) | (simp [go_sem]; omega)) _)))) (hb4.mono (by (first | omega | (simp [go_sem]; done) | (simp [go_sem]; omega))))).trans (hb5.mono (Nat.le_trans (by (first | omega | (simp [go_sem]; done) | (simp [go_sem]; omega))) hb4.size))).trans (hb6.mono (Nat.le_trans (Nat.le_trans (by (first | omega | (simp [go_sem]; done) | (simp [go_sem]; omega))) hb4.size) hb5.size))
  have HBT := Lib.hid hbt; clear hbt hb4 hb5 hb6 hlk k3 k4 k5 hops hfl
  go_wp2_with fail
  exact bodyPost_ret (v := .tuple #[.int .i64 (rangedC R).1, .int .i64 (rangedC R).2]) (by simp [results, Tryz.results37, go_sem, *]) rfl ⟨rfl, HBT.out⟩
end Go.Proofs.YtnjpfhihbjihbaaGreatDoor

/- expr.Eval at a binary node. (Written by wip/gen_evalw.py.) -/
namespace Go.Proofs.YtnjpfhihbjihbaaGreatDoor
open Go.RowKit Go.Sort

set_option maxHeartbeats 2000000 in
set_option maxRecDepth 100000 in
theorem eval_bin3 (op : ByteArray) (here : Int) (m : Value) (w : World) (g ga gb i : Nat) (x y : Int) (R : Int × Int) (hlt : g < w.heap.size)
    (c0 : w.cell? ⟨g, 0, none⟩ = some (.int .i64 5)) (_ : w.cell? ⟨g, 1, none⟩ = some (.int .i64 0)) (c2 : w.cell? ⟨g, 2, none⟩ = some (.string op)) (c3 : w.cell? ⟨g, 3, none⟩ = some (.pointer (some ⟨ga, 0, none⟩))) (c4 : w.cell? ⟨g, 4, none⟩ = some (.pointer (some ⟨gb, 0, none⟩)))
    (IH : Hid (Calls Tryz.prog 37 #[.pointer (some ⟨ga, 0, none⟩), .int .i64 here, m] w (EvRes (x, 0) w)))
    (IHB : Hid (∀ w', Below w.heap.size w w' → Calls Tryz.prog 37 #[.pointer (some ⟨gb, 0, none⟩), .int .i64 here, m] w' (EvRes (y, 0) w')))
    (HI10 : Hid (i < 10)) (HV : Hid (∀ gg, opVal gg op = .agg #[.int .i64 (opLv i : Nat), .func (.func 142) #[] #[.pointer (some ⟨gg + i, 0, none⟩)]]))
    (HAPP : Hid (∀ (g : Nat) (w : World), w.cell? ⟨g, 0, none⟩ = some (.func (.func (opFn i)) #[] #[]) → g < w.heap.size → Calls Tryz.prog 142 #[.int .i64 x, .int .i64 y, .pointer (some ⟨g, 0, none⟩)] w fun e w' => e = .returned (.tuple #[.int .i64 R.1, .int .i64 R.2]) ∧ Below w.heap.size w w')) :
    Calls Tryz.prog 37 #[.pointer (some ⟨g, 0, none⟩), .int .i64 here, m] w (EvRes (rangedC R) w) := by
  go_enter Tryz.func37, Tryz.ntmps37
  go_wp2_with fail
  refine IH.out.mono ?_
  rintro e w1 ⟨rfl, hb1⟩
  obtain ⟨p1, rfl⟩ := gw_of_below hb1
  clear hb1
  go_wp2_with fail
  refine (IHB.out _ (by (repeat (first | exact Below.refl _ _ | refine Below.drew ?_ | (refine below_gw' ?_ (by first | omega | (simp [go_sem]; done) | (simp [go_sem]; omega)) _) | (refine Below.alloc ?_ (by first | omega | (simp [go_sem]; done) | (simp [go_sem]; omega)) _) | (refine Below.setCell ?_ (by first | omega | (simp [go_sem]; done) | (simp [go_sem]; omega)) _))))).mono ?_
  rintro e w2 ⟨rfl, hb2⟩
  obtain ⟨p2, rfl⟩ := gw_of_below hb2
  clear hb2
  go_wp2_with fail
  have k2 : (gw (gw w p1) p2).cell? ⟨g, 2, none⟩ = some (.string op) := by rw [gw_cell _ _ _ _ (by rw [gw_size]; omega), gw_cell _ _ _ _ hlt]; exact c2
  have hgq : g < (gw (gw w p1) p2).heap.size := by rw [gw_size, gw_size]; omega
  have hfl := fun (a F : Value) (w : World) => (field_op a F w).2
  go_region_held3 (fun w' => w'.cell? ⟨g, 2, none⟩ = some (.string op)) (first | exact k2 | exact k3 | exact k4 | exact k5) (first | (go_at_call 66; refine (operators_any _).mono ?_; rintro e w4 ⟨m4, g4, rfl, hops, hb4⟩; have hlk := run_look w4 m4 g4 op hops.1; rw [HV.out g4] at hlk; have k3 := (hb4.cell (p := ⟨g, 2, none⟩) hgq).trans k2) | (refine (HAPP.out (g4 + i) _ (hops.2 i HI10.out) (cell_lt (hops.2 i HI10.out))).mono ?_; rintro e w5 ⟨rfl, hb5⟩; have k4 := (hb5.cell (p := ⟨g, 2, none⟩) (Nat.lt_of_lt_of_le hgq hb4.size)).trans k3) | (go_at_call 65; refine (pranged_any R.1 R.2 _).mono ?_; rintro e w6 ⟨rfl, hb6⟩; have k5 := (hb6.cell (p := ⟨g, 2, none⟩) (Nat.lt_of_lt_of_le hgq (Nat.le_trans hb4.size hb5.size))).trans k4))
  have hbt : Below w.heap.size w w6 := ((Below.trans (b := (gw (gw w p1) p2).drew) (by (repeat (first | exact Below.refl _ _ | refine Below.drew ?_ | (refine below_gw' ?_ (by first | omega | (simp [go_sem]; done) | (simp [go_sem]; omega)) _) | (refine Below.alloc ?_ (by first | omega | (simp [go_sem]; done) | (simp [go_sem]; omega)) _) | (refine Below.setCell ?_ (by first | omega | (simp [go_sem]; done) | (simp [go_sem]; omega)) _)))) (hb4.mono (by (first | omega | (simp [go_sem]; done) | (simp [go_sem]; omega))))).trans (hb5.mono (Nat.le_trans (by (first | omega | (simp [go_sem]; done) | (simp [go_sem]; omega))) hb4.size))).trans (hb6.mono (Nat.le_trans (Nat.le_trans (by (first | omega | (simp [go_sem]; done) | (simp [go_sem]; omega))) hb4.size) hb5.size))
  have HBT := Lib.hid hbt; clear hbt hb4 hb5 hb6 hlk k3 k4 k5 hops hfl
  go_wp2_with fail
  exact bodyPost_ret (v := .tuple #[.int .i64 (rangedC R).1, .int .i64 (rangedC R).2]) (by simp [results, Tryz.results37, go_sem, *]) rfl ⟨rfl, HBT.out⟩
end Go.Proofs.YtnjpfhihbjihbaaGreatDoor
