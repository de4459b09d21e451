/- Joined texts: EvalW, Find17. -/
import Derived.Test.YtpkbonfbehhbdaaGreatDoorE03
import Derived.Test.YtpkbonfbehhbdaaGreatDoorE07
import Derived.Test.YtpkbonfbehhbdaaGreatDoorE08
/- expr.Eval. -/
namespace Go.Proofs.YtpkbonfbehhbdaaGreatDoor
open Go.RowKit Go.Sort

set_option maxHeartbeats 2000000 in
set_option maxRecDepth 100000 in
theorem eval_any (env : ByteArray → Option Int) (here : Int) (he : ∀ s n, env s = some n → -2147483648 ≤ n ∧ n ≤ 2147483647) (hh : -2147483648 ≤ here ∧ here ≤ 2147483647) (m : Value) :
    ∀ (x : Ex), x.good → ∀ (v : Value) (w : World), NodeAt 80 0 w x v → MapAt w m env → Calls Tryz.prog 17 #[v, .int .i64 here, m] w (EvRes (x.eval env here) w)
  | .num n, hg, v, w, hn, hm => by
    obtain ⟨g, _, rfl, hb⟩ := hn
    obtain ⟨hlt, c0, c1, c2, c3, c4⟩ := node_cells hb
    clear hm hb he
    go_enter Tryz.func17, Tryz.ntmps17
    go_wp2_with fail
    exact bodyPost_ret (v := .tuple #[.int .i64 n, .int .i64 0]) (by simp [results, Tryz.results17, go_sem, *]) rfl ⟨rfl, by (repeat (first | exact Below.refl _ _ | refine Below.drew ?_ | (refine below_gw' ?_ (by first | omega | (simp [go_sem]; done) | (simp [go_sem]; omega)) _) | (refine Below.alloc ?_ (by first | omega | (simp [go_sem]; done) | (simp [go_sem]; omega)) _) | (refine Below.setCell ?_ (by first | omega | (simp [go_sem]; done) | (simp [go_sem]; omega)) _)))⟩
  | .sym s, hg, v, w, hn, hm => by
    obtain ⟨g, _, rfl, hb⟩ := hn
    obtain ⟨hlt, c0, c1, c2, c3, c4⟩ := node_cells hb
    have hlk := hm.look s
    clear hm hb he
    unfold Ex.eval
    rcases hs : env s with _ | n
    · rw [hs] at hlk
      simp only [Option.getD_none, Option.isSome_none] at hlk
      clear hs
      go_enter Tryz.func17, Tryz.ntmps17
      go_wp2_with fail
      exact bodyPost_ret (v := .tuple #[.int .i64 0, .int .i64 13]) (by simp [results, Tryz.results17, go_sem, *]) rfl ⟨rfl, by (repeat (first | exact Below.refl _ _ | refine Below.drew ?_ | (refine below_gw' ?_ (by first | omega | (simp [go_sem]; done) | (simp [go_sem]; omega)) _) | (refine Below.alloc ?_ (by first | omega | (simp [go_sem]; done) | (simp [go_sem]; omega)) _) | (refine Below.setCell ?_ (by first | omega | (simp [go_sem]; done) | (simp [go_sem]; omega)) _)))⟩
    · rw [hs] at hlk
      simp only [Option.getD_some, Option.isSome_some] at hlk
      clear hs
      go_enter Tryz.func17, Tryz.ntmps17
      go_wp2_with fail
      exact bodyPost_ret (v := .tuple #[.int .i64 n, .int .i64 0]) (by simp [results, Tryz.results17, go_sem, *]) rfl ⟨rfl, by (repeat (first | exact Below.refl _ _ | refine Below.drew ?_ | (refine below_gw' ?_ (by first | omega | (simp [go_sem]; done) | (simp [go_sem]; omega)) _) | (refine Below.alloc ?_ (by first | omega | (simp [go_sem]; done) | (simp [go_sem]; omega)) _) | (refine Below.setCell ?_ (by first | omega | (simp [go_sem]; done) | (simp [go_sem]; omega)) _)))⟩
  | .here, hg, v, w, hn, hm => by
    obtain ⟨g, _, rfl, hb⟩ := hn
    obtain ⟨hlt, c0, c1, c2, c3, c4⟩ := node_cells hb
    clear hm hb he
    go_enter Tryz.func17, Tryz.ntmps17
    go_wp2_with fail
    exact bodyPost_ret (v := .tuple #[.int .i64 here, .int .i64 0]) (by simp [results, Tryz.results17, go_sem, *]) rfl ⟨rfl, by (repeat (first | exact Below.refl _ _ | refine Below.drew ?_ | (refine below_gw' ?_ (by first | omega | (simp [go_sem]; done) | (simp [go_sem]; omega)) _) | (refine Below.alloc ?_ (by first | omega | (simp [go_sem]; done) | (simp [go_sem]; omega)) _) | (refine Below.setCell ?_ (by first | omega | (simp [go_sem]; done) | (simp [go_sem]; omega)) _)))⟩
  | .un op a, hg, v, w, hn, hm => by
    obtain ⟨g, va, _, rfl, hb, ha⟩ := hn
    obtain ⟨hlt, c0, c1, c2, c3, c4⟩ := node_cells hb
    have ih := eval_any env here he hh m a hg.2 va w ha hm
    have hin := eval_in env here he hh a hg.2
    obtain ⟨ga, rfl, hga⟩ := ha.ptr
    unfold Ex.eval
    generalize a.eval env here = r at ih hin ⊢
    obtain ⟨x, c⟩ := r
    dsimp only at hin
    obtain ⟨hi1, hi2⟩ := hin
    have hop := hg.1
    have IH := Lib.hid ih; clear ih hm hb he ha hg
    by_cases hc : c = 0
    · subst hc
      have hw1 : wrap64 (-x) = -x := by simp only [wrap64]; omega
      rw [if_pos rfl]
      have htst : (op.toList == [45]) = true ∧ unEval op x = -x ∨ (op.toList == [45]) = false ∧ (op.toList == [126]) = true ∧ unEval op x = -x - 1 ∨ (op.toList == [45]) = false ∧ (op.toList == [126]) = false ∧ unEval op x = x := by
        rcases hop with h | h | h <;> simp [unEval, h]
      clear hop
      rcases htst with ⟨h1, hu⟩ | ⟨h1, h2, hu⟩ | ⟨h1, h2, hu⟩
      all_goals
        rw [hu]
        clear hu
        go_enter Tryz.func17, Tryz.ntmps17
        go_wp2_with fail
        refine IH.out.mono ?_
        rintro e w1 ⟨rfl, hb1⟩
        obtain ⟨p1, rfl⟩ := gw_of_below hb1
        clear hb1
        go_wp2_with fail
        refine (pranged_any _ 0 _).mono ?_
        rintro e w2 ⟨rfl, hb2⟩
        obtain ⟨p2, rfl⟩ := gw_of_below hb2
        clear hb2
        go_wp2_with fail
        first
          | exact bodyPost_ret (v := .tuple #[.int .i64 (rangedC (-x, 0)).1, .int .i64 (rangedC (-x, 0)).2]) (by simp [results, Tryz.results17, go_sem, *]) rfl ⟨rfl, by (repeat (first | exact Below.refl _ _ | refine Below.drew ?_ | (refine below_gw' ?_ (by first | omega | (simp [go_sem]; done) | (simp [go_sem]; omega)) _) | (refine Below.alloc ?_ (by first | omega | (simp [go_sem]; done) | (simp [go_sem]; omega)) _) | (refine Below.setCell ?_ (by first | omega | (simp [go_sem]; done) | (simp [go_sem]; omega)) _)))⟩
          | exact bodyPost_ret (v := .tuple #[.int .i64 (rangedC (bits .xor .i64 (-1) x, 0)).1, .int .i64 (rangedC (bits .xor .i64 (-1) x, 0)).2]) (by simp [results, Tryz.results17, go_sem, *]) rfl ⟨by rw [xor_m1 x hi1 hi2]; rfl, by (repeat (first | exact Below.refl _ _ | refine Below.drew ?_ | (refine below_gw' ?_ (by first | omega | (simp [go_sem]; done) | (simp [go_sem]; omega)) _) | (refine Below.alloc ?_ (by first | omega | (simp [go_sem]; done) | (simp [go_sem]; omega)) _) | (refine Below.setCell ?_ (by first | omega | (simp [go_sem]; done) | (simp [go_sem]; omega)) _)))⟩
          | exact bodyPost_ret (v := .tuple #[.int .i64 (rangedC (x, 0)).1, .int .i64 (rangedC (x, 0)).2]) (by simp [results, Tryz.results17, go_sem, *]) rfl ⟨rfl, by (repeat (first | exact Below.refl _ _ | refine Below.drew ?_ | (refine below_gw' ?_ (by first | omega | (simp [go_sem]; done) | (simp [go_sem]; omega)) _) | (refine Below.alloc ?_ (by first | omega | (simp [go_sem]; done) | (simp [go_sem]; omega)) _) | (refine Below.setCell ?_ (by first | omega | (simp [go_sem]; done) | (simp [go_sem]; omega)) _)))⟩
    · have hcb : (c == 0) = false := by simpa using hc
      have hcn : (c != 0) = true := by simpa using hc
      rw [if_neg hc]
      clear hop
      go_enter Tryz.func17, Tryz.ntmps17
      go_wp2_with fail
      refine IH.out.mono ?_
      rintro e w1 ⟨rfl, hb1⟩
      obtain ⟨p1, rfl⟩ := gw_of_below hb1
      clear hb1
      go_wp2_with fail
      exact bodyPost_ret (v := .tuple #[.int .i64 0, .int .i64 c]) (by simp [results, Tryz.results17, go_sem, *]) rfl ⟨rfl, by (repeat (first | exact Below.refl _ _ | refine Below.drew ?_ | (refine below_gw' ?_ (by first | omega | (simp [go_sem]; done) | (simp [go_sem]; omega)) _) | (refine Below.alloc ?_ (by first | omega | (simp [go_sem]; done) | (simp [go_sem]; omega)) _) | (refine Below.setCell ?_ (by first | omega | (simp [go_sem]; done) | (simp [go_sem]; omega)) _)))⟩
  | .bin op a b, hg, v, w, hn, hm => by
    obtain ⟨g, va, vb, _, rfl, hb, ha, hbb⟩ := hn
    obtain ⟨hlt, c0, c1, c2, c3, c4⟩ := node_cells hb
    have ih := eval_any env here he hh m a hg.2.1 va w ha hm
    have ihb := fun w' => eval_any env here he hh m b hg.2.2 vb w'
    have hin := eval_in env here he hh a hg.2.1
    have hinb := eval_in env here he hh b hg.2.2
    obtain ⟨ga, rfl, hga⟩ := ha.ptr
    obtain ⟨gb, rfl, hgb⟩ := hbb.ptr
    have hkb : ∀ w', Below w.heap.size w w' → NodeAt 80 0 w' b (.pointer (some ⟨gb, 0, none⟩)) ∧ MapAt w' m env := fun w' h => ⟨hbb.below h, hm.below h⟩
    unfold Ex.eval
    generalize a.eval env here = r at ih hin ⊢
    generalize b.eval env here = rb at ihb hinb ⊢
    obtain ⟨x, c⟩ := r
    obtain ⟨y, d⟩ := rb
    dsimp only at hin hinb
    have hop := hg.1
    have IH := Lib.hid ih; clear ih hm he ha hg
    have IHB := Lib.hid ihb; clear ihb hbb
    have HKB := Lib.hid hkb; clear hkb
    by_cases hc : c = 0
    · subst hc
      rw [if_pos rfl]
      by_cases hd : d = 0
      · subst hd
        rw [if_pos rfl]
        obtain ⟨i, hi, hv, hlt10⟩ : ∃ i, opIdx op = some i ∧ (∀ gg, opVal gg op = .agg #[.int .i64 (opLv i : Nat), .func (.func (opCl i)) #[] #[.pointer (some ⟨gg + i, 0, none⟩)]]) ∧ i < 10 := by
          rw [opLv_eq] at hop
          rcases h : opIdx op with _ | i
          · rw [h] at hop; exact absurd rfl hop
          · refine ⟨i, rfl, fun gg => by unfold opVal; rw [h], ?_⟩
            unfold opIdx at h
            repeat' split at h
            all_goals first | (cases h; omega) | cases h
        have happ := fun g w => apply_any i hlt10 x y g w hin hinb
        have hE : opEval op x y = rangedC (opRaw i x y) := by unfold opEval; rw [hi]
        rw [hE]
        obtain ⟨R, hR⟩ : ∃ R, opRaw i x y = R := ⟨_, rfl⟩
        rw [hR] at happ ⊢
        clear hi hE hR hin hinb hb
        have hcl : opCl i = 102 ∨ opCl i = 103 ∨ opCl i = 104 := by
          have h10 : i = 0 ∨ i = 1 ∨ i = 2 ∨ i = 3 ∨ i = 4 ∨ i = 5 ∨ i = 6 ∨ i = 7 ∨ i = 8 ∨ i = 9 := by omega
          rcases h10 with rfl | rfl | rfl | rfl | rfl | rfl | rfl | rfl | rfl | rfl <;> first | exact .inl rfl | exact .inr (.inl rfl) | exact .inr (.inr rfl)
        rcases hcl with hcl | hcl | hcl
        · rw [hcl] at happ
          exact eval_bin1 op here m w g ga gb i x y R hlt c0 c1 c2 c3 c4 IH (Lib.hid fun w' h => IHB.out w' (HKB.out w' h).1 (HKB.out w' h).2) (Lib.hid hlt10) (Lib.hid fun gg => by rw [← hcl]; exact hv gg) (Lib.hid happ)
        · rw [hcl] at happ
          exact eval_bin2 op here m w g ga gb i x y R hlt c0 c1 c2 c3 c4 IH (Lib.hid fun w' h => IHB.out w' (HKB.out w' h).1 (HKB.out w' h).2) (Lib.hid hlt10) (Lib.hid fun gg => by rw [← hcl]; exact hv gg) (Lib.hid happ)
        · rw [hcl] at happ
          exact eval_bin3 op here m w g ga gb i x y R hlt c0 c1 c2 c3 c4 IH (Lib.hid fun w' h => IHB.out w' (HKB.out w' h).1 (HKB.out w' h).2) (Lib.hid hlt10) (Lib.hid fun gg => by rw [← hcl]; exact hv gg) (Lib.hid happ)
      · have hcb : (d == 0) = false := by simpa using hd
        have hcn : (d != 0) = true := by simpa using hd
        rw [if_neg hd]
        clear hop hin hinb hb
        go_enter Tryz.func17, Tryz.ntmps17
        go_wp2_with fail
        refine IH.out.mono ?_
        rintro e w1 ⟨rfl, hb1⟩
        obtain ⟨p1, rfl⟩ := gw_of_below hb1
        clear hb1
        go_wp2_with fail
        refine (IHB.out _ (HKB.out _ (by (repeat (first | exact Below.refl _ _ | refine Below.drew ?_ | (refine below_gw' ?_ (by first | omega | (simp [go_sem]; done) | (simp [go_sem]; omega)) _) | (refine Below.alloc ?_ (by first | omega | (simp [go_sem]; done) | (simp [go_sem]; omega)) _) | (refine Below.setCell ?_ (by first | omega | (simp [go_sem]; done) | (simp [go_sem]; omega)) _))))).1 (HKB.out _ (by (repeat (first | exact Below.refl _ _ | refine Below.drew ?_ | (refine below_gw' ?_ (by first | omega | (simp [go_sem]; done) | (simp [go_sem]; omega)) _) | (refine Below.alloc ?_ (by first | omega | (simp [go_sem]; done) | (simp [go_sem]; omega)) _) | (refine Below.setCell ?_ (by first | omega | (simp [go_sem]; done) | (simp [go_sem]; omega)) _))))).2).mono ?_
        rintro e w2 ⟨rfl, hb2⟩
        obtain ⟨p2, rfl⟩ := gw_of_below hb2
        clear hb2
        go_wp2_with fail
        exact bodyPost_ret (v := .tuple #[.int .i64 0, .int .i64 d]) (by simp [results, Tryz.results17, go_sem, *]) rfl ⟨rfl, by (repeat (first | exact Below.refl _ _ | refine Below.drew ?_ | (refine below_gw' ?_ (by first | omega | (simp [go_sem]; done) | (simp [go_sem]; omega)) _) | (refine Below.alloc ?_ (by first | omega | (simp [go_sem]; done) | (simp [go_sem]; omega)) _) | (refine Below.setCell ?_ (by first | omega | (simp [go_sem]; done) | (simp [go_sem]; omega)) _)))⟩
    · have hcb : (c == 0) = false := by simpa using hc
      have hcn : (c != 0) = true := by simpa using hc
      rw [if_neg hc]
      clear hop hin hinb hb
      go_enter Tryz.func17, Tryz.ntmps17
      go_wp2_with fail
      refine IH.out.mono ?_
      rintro e w1 ⟨rfl, hb1⟩
      obtain ⟨p1, rfl⟩ := gw_of_below hb1
      clear hb1
      go_wp2_with fail
      exact bodyPost_ret (v := .tuple #[.int .i64 0, .int .i64 c]) (by simp [results, Tryz.results17, go_sem, *]) rfl ⟨rfl, by (repeat (first | exact Below.refl _ _ | refine Below.drew ?_ | (refine below_gw' ?_ (by first | omega | (simp [go_sem]; done) | (simp [go_sem]; omega)) _) | (refine Below.alloc ?_ (by first | omega | (simp [go_sem]; done) | (simp [go_sem]; omega)) _) | (refine Below.setCell ?_ (by first | omega | (simp [go_sem]; done) | (simp [go_sem]; omega)) _)))⟩
end Go.Proofs.YtpkbonfbehhbdaaGreatDoor

/- breadboardref17.find. -/
namespace Go.Proofs.YtpkbonfbehhbdaaGreatDoor
open Go.RowKit Go.Sort

/-- The value that a list of pairs gives to a name: the last one counts. -/
def envL (l : List (ByteArray × Int)) (s : ByteArray) : Option Int := l.foldl (fun acc x => if x.1 == s then some x.2 else acc) none
theorem envL_snoc (l : List (ByteArray × Int)) (x : ByteArray × Int) (s : ByteArray) : envL (l ++ [x]) s = if x.1 == s then some x.2 else envL l s := by
  unfold envL; rw [List.foldl_append]; rfl
theorem envL_take (l : List (ByteArray × Int)) (k : Nat) (x : ByteArray × Int) (h : l[k]? = some x) (s : ByteArray) : envL (l.take (k + 1)) s = if x.1 == s then some x.2 else envL (l.take k) s := by
  rw [List.take_add_one, h]; exact envL_snoc _ _ _
theorem envL_mem (l : List (ByteArray × Int)) (s : ByteArray) : ∀ n, envL l s = some n → ∃ x ∈ l, x.2 = n := by
  have h : ∀ (l : List (ByteArray × Int)) (acc : Option Int) (n : Int), l.foldl (fun acc x => if x.1 == s then some x.2 else acc) acc = some n → acc = some n ∨ ∃ x ∈ l, x.2 = n := by
    intro l
    induction l with
    | nil => intro acc n h; exact .inl h
    | cons a l ih =>
      intro acc n h
      rw [List.foldl_cons] at h
      rcases ih _ n h with h | ⟨x, hx, h⟩
      · split at h
        · cases h; exact .inr ⟨a, List.mem_cons_self, rfl⟩
        · exact .inl h
      · exact .inr ⟨x, List.mem_cons_of_mem _ hx, h⟩
  intro n hn
  rcases h l none n hn with h | h
  · cases h
  · exact h
/-- The cells of pairs. -/
def valc (l : List (ByteArray × Int)) : List Value := l.flatMap fun x => [.string x.1, .int .i64 x.2]
theorem valc_len (l : List (ByteArray × Int)) : (valc l).length = l.length * 2 := by
  unfold valc
  induction l with
  | nil => rfl
  | cons a l ih => simp at ih ⊢; omega
theorem valc_get : ∀ (l : List (ByteArray × Int)) (i : Nat) (x : ByteArray × Int), l[i]? = some x → (valc l)[i * 2]? = some (.string x.1) ∧ (valc l)[i * 2 + 1]? = some (.int .i64 x.2)
  | [], i, x, h => by simp at h
  | a :: l, 0, x, h => by
    simp at h; subst h
    exact ⟨rfl, rfl⟩
  | a :: l, i + 1, x, h => by
    have hx : l[i]? = some x := by simpa using h
    obtain ⟨g0, g1⟩ := valc_get l i x hx
    have e : ∀ k, (valc (a :: l))[(i + 1) * 2 + k]? = (valc l)[i * 2 + k]? := fun k => by
      show ([Value.string a.1, .int .i64 a.2] ++ valc l)[(i + 1) * 2 + k]? = _
      rw [List.getElem?_append_right (by simp; omega)]
      congr 1
      simp; omega
    refine ⟨?_, ?_⟩
    · have := e 0; simp only [Nat.add_zero] at this; rw [this]; exact g0
    · rw [e 1]; exact g1
theorem Row.vals {w : World} {v : Value} {l : List (ByteArray × Int)} (h : Row w v l.length (valc l)) : ∃ a cap, v = .slice a l.length cap ∧ l.length ≤ cap ∧ (l ≠ [] → ∃ g o, a = some ⟨g, o, none⟩ ∧ g < w.heap.size ∧ ∀ i x, l[i]? = some x →
    w.cell? ⟨g, o + i * 2, none⟩ = some (.string x.1) ∧ w.cell? ⟨g, o + i * 2 + 1, none⟩ = some (.int .i64 x.2)) := by
  obtain ⟨a, cap, hv, hn, h⟩ := h
  refine ⟨a, cap, hv, hn, fun hl => ?_⟩
  obtain ⟨g, o, ha, hg, hc⟩ := h (by intro e; apply hl; have := valc_len l; rw [e] at this; exact List.eq_nil_of_length_eq_zero (by simp at this; omega))
  refine ⟨g, o, ha, hg, fun i x hx => ?_⟩
  have hi : i < l.length := (List.getElem?_eq_some_iff.1 hx).1
  have hlen := valc_len l
  obtain ⟨e0, e1⟩ := valc_get l i x hx
  exact ⟨(hc (i * 2) (by omega)).trans e0, by rw [Nat.add_assoc]; exact (hc (i * 2 + 1) (by omega)).trans e1⟩
theorem eqL (s t : ByteArray) : (s.toList == t.toList) = (s == t) := by
  rw [bbeq, Bool.eq_iff_iff, beq_iff_eq, decide_eq_true_iff, ByteArray.toList_eq, ByteArray.toList_eq]
  exact ⟨fun h => ByteArray.ext (Array.ext' h), fun h => by rw [h]⟩
set_option maxHeartbeats 1000000 in
theorem rfind_any (l : List (ByteArray × Int)) (s : ByteArray) (v : Value) (w : World) (hr : Row w v l.length (valc l)) (hl : l.length ≤ 1000000) :
    Calls Tryz.prog 40 #[v, .string s] w fun e w' => e = .returned (.tuple #[.int .i64 ((envL l s).getD 0), .bool (envL l s).isSome]) ∧ Below w.heap.size w w' := by
  obtain ⟨a, cap, rfl, hcap, hc⟩ := hr.vals
  have hl1 : (l.length : Int) ≤ 1000000 := by omega
  have hc1 : (l.length : Int) ≤ (cap : Int) := by omega
  have hl0 : (0 : Int) ≤ (l.length : Int) := by omega
  obtain ⟨R, hR⟩ : ∃ R, envL l s = R := ⟨_, rfl⟩
  rw [hR]
  have HC := Lib.hid hc; clear hc hr
  have HR : Hid (envL (l.take l.length) s = R) := Lib.hid (by rw [List.take_length]; exact hR)
  clear hR
  go_enter Tryz.func40, Tryz.ntmps40
  go_wp2_with fail
  go_loopw [6] (fun i wr => ∃ k : Nat, k ≤ l.length ∧ i = .int .i64 ((k : Int) - 1) ∧ Below w.heap.size w wr ∧ Hid (envL (l.take k) s = R)) (fun i _ => (intOf i + 1).toNat)
  case atStart => exact ⟨l.length, Nat.le_refl _, rfl, Below.refl _ _, HR⟩
  case round =>
    obtain ⟨k, hk, rfl, hbel, Hno⟩ := hrel
    have HBEL := Lib.hid hbel; clear hbel
    rcases k with _ | k
    · have hR0 : R = none := by rw [← Hno.out]; rfl
      have HR0 := Lib.hid hR0; clear hR0
      go_wp2_with fail
      exact bodyPost_ret (v := .tuple #[.int .i64 0, .bool false]) (by simp [results, Tryz.results40, go_sem]) rfl ⟨by rw [HR0.out]; rfl, HBEL.out⟩
    · obtain ⟨x, hx⟩ : ∃ x, l[k]? = some x := ⟨_, List.getElem?_eq_getElem (by omega)⟩
      obtain ⟨g, o, rfl, hg, hcs⟩ := HC.out (by rintro rfl; simp at hx)
      obtain ⟨e0, e1⟩ := hcs k x hx
      clear hcs
      have f0 := (HBEL.out.cell (p := ⟨g, o + k * 2, none⟩) hg).trans e0
      have f1 := (HBEL.out.cell (p := ⟨g, o + k * 2 + 1, none⟩) hg).trans e1
      have hstep := envL_take l k x hx s
      rw [Hno.out] at hstep
      have HST := Lib.hid hstep; clear hstep e0 e1 hx
      have hi0 : (0 : Int) ≤ (k : Int) := by omega
      have hi1 : (k : Int) < (l.length : Int) := by omega
      have hi2 : ((k + 1 : Nat) : Int) - 1 = (k : Int) := by omega
      obtain ⟨xn, xv⟩ := x
      simp only at f0 f1 HST
      have he := eqL xn s
      rw [hi2]
      clear hi2
      rcases hb : (xn == s) with _ | _
      · rw [hb] at he
        have HN : Hid (envL (l.take k) s = R) := Lib.hid (by have := HST.out; rw [hb] at this; exact this.symm)
        clear hb HST
        go_wp2_with fail
        go_roundw
        case rel => exact ⟨k, by omega, by go_num, HBEL.out, HN⟩
        case measure => first | (simp [intOf]; done) | (simp [intOf]; omega)
      · rw [hb] at he
        have HN : Hid (R = some xv) := Lib.hid (by have := HST.out; rw [hb] at this; exact this)
        clear hb HST
        go_wp2_with fail
        exact bodyPost_ret (v := .tuple #[.int .i64 xv, .bool true]) (by simp [results, Tryz.results40, go_sem]) rfl ⟨by rw [HN.out]; rfl, HBEL.out⟩
end Go.Proofs.YtpkbonfbehhbdaaGreatDoor
