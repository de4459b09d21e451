/- Joined texts: EvalW, Visit, VisitW. -/
import Derived.Test.YtnjpfhihbjihbaaGreatDoorS10
import Derived.Test.YtnjpfhihbjihbaaGreatDoorS27
import Derived.Test.YtnjpfhihbjihbaaGreatDoorS32
/- expr.Eval. -/
namespace Go.Proofs.YtnjpfhihbjihbaaGreatDoor
open Go.RowKit Go.Sort

set_option maxHeartbeats 2000000 in
set_option maxRecDepth 100000 in
theorem eval_any (env : ByteArray → Option Int) (here : Int) (he : ∀ s n, env s = some n → -2147483648 ≤ n ∧ n ≤ 2147483647) (hh : -2147483648 ≤ here ∧ here ≤ 2147483647) (m : Value) :
    ∀ (x : Ex), x.good → ∀ (v : Value) (w : World), NodeAt 130 0 w x v → MapAt w m env → Calls Tryz.prog 37 #[v, .int .i64 here, m] w (EvRes (x.eval env here) w)
  | .num n, hg, v, w, hn, hm => by
    obtain ⟨g, _, rfl, hb⟩ := hn
    obtain ⟨hlt, c0, c1, c2, c3, c4⟩ := node_cells hb
    clear hm hb he
    go_enter Tryz.func37, Tryz.ntmps37
    go_wp2_with fail
    exact bodyPost_ret (v := .tuple #[.int .i64 n, .int .i64 0]) (by simp [results, Tryz.results37, go_sem, *]) rfl ⟨rfl, by (repeat (first | exact Below.refl _ _ | refine Below.drew ?_ | (refine below_gw' ?_ (by first | omega | (simp [go_sem]; done) | (simp [go_sem]; omega)) _) | (refine Below.alloc ?_ (by first | omega | (simp [go_sem]; done) | (simp [go_sem]; omega)) _) | (refine Below.setCell ?_ (by first | omega | (simp [go_sem]; done) | (simp [go_sem]; omega)) _)))⟩
  | .sym s, hg, v, w, hn, hm => by
    obtain ⟨g, _, rfl, hb⟩ := hn
    obtain ⟨hlt, c0, c1, c2, c3, c4⟩ := node_cells hb
    have hlk := hm.look s
    clear hm hb he
    unfold Ex.eval
    rcases hs : env s with _ | n
    · rw [hs] at hlk
      simp only [Option.getD_none, Option.isSome_none] at hlk
      clear hs
      go_enter Tryz.func37, Tryz.ntmps37
      go_wp2_with fail
      exact bodyPost_ret (v := .tuple #[.int .i64 0, .int .i64 13]) (by simp [results, Tryz.results37, go_sem, *]) rfl ⟨rfl, by (repeat (first | exact Below.refl _ _ | refine Below.drew ?_ | (refine below_gw' ?_ (by first | omega | (simp [go_sem]; done) | (simp [go_sem]; omega)) _) | (refine Below.alloc ?_ (by first | omega | (simp [go_sem]; done) | (simp [go_sem]; omega)) _) | (refine Below.setCell ?_ (by first | omega | (simp [go_sem]; done) | (simp [go_sem]; omega)) _)))⟩
    · rw [hs] at hlk
      simp only [Option.getD_some, Option.isSome_some] at hlk
      clear hs
      go_enter Tryz.func37, Tryz.ntmps37
      go_wp2_with fail
      exact bodyPost_ret (v := .tuple #[.int .i64 n, .int .i64 0]) (by simp [results, Tryz.results37, go_sem, *]) rfl ⟨rfl, by (repeat (first | exact Below.refl _ _ | refine Below.drew ?_ | (refine below_gw' ?_ (by first | omega | (simp [go_sem]; done) | (simp [go_sem]; omega)) _) | (refine Below.alloc ?_ (by first | omega | (simp [go_sem]; done) | (simp [go_sem]; omega)) _) | (refine Below.setCell ?_ (by first | omega | (simp [go_sem]; done) | (simp [go_sem]; omega)) _)))⟩
  | .here, hg, v, w, hn, hm => by
    obtain ⟨g, _, rfl, hb⟩ := hn
    obtain ⟨hlt, c0, c1, c2, c3, c4⟩ := node_cells hb
    clear hm hb he
    go_enter Tryz.func37, Tryz.ntmps37
    go_wp2_with fail
    exact bodyPost_ret (v := .tuple #[.int .i64 here, .int .i64 0]) (by simp [results, Tryz.results37, go_sem, *]) rfl ⟨rfl, by (repeat (first | exact Below.refl _ _ | refine Below.drew ?_ | (refine below_gw' ?_ (by first | omega | (simp [go_sem]; done) | (simp [go_sem]; omega)) _) | (refine Below.alloc ?_ (by first | omega | (simp [go_sem]; done) | (simp [go_sem]; omega)) _) | (refine Below.setCell ?_ (by first | omega | (simp [go_sem]; done) | (simp [go_sem]; omega)) _)))⟩
  | .un op a, hg, v, w, hn, hm => by
    obtain ⟨g, va, _, rfl, hb, ha⟩ := hn
    obtain ⟨hlt, c0, c1, c2, c3, c4⟩ := node_cells hb
    have ih := eval_any env here he hh m a hg.2 va w ha hm
    have hin := eval_in env here he hh a hg.2
    obtain ⟨ga, rfl, hga⟩ := ha.ptr
    unfold Ex.eval
    generalize a.eval env here = r at ih hin ⊢
    obtain ⟨x, c⟩ := r
    dsimp only at hin
    obtain ⟨hi1, hi2⟩ := hin
    have hop := hg.1
    have IH := Lib.hid ih; clear ih hm hb he ha hg
    by_cases hc : c = 0
    · subst hc
      have hw1 : wrap64 (-x) = -x := by simp only [wrap64]; omega
      rw [if_pos rfl]
      have htst : (op.toList == [45]) = true ∧ unEval op x = -x ∨ (op.toList == [45]) = false ∧ (op.toList == [126]) = true ∧ unEval op x = -x - 1 ∨ (op.toList == [45]) = false ∧ (op.toList == [126]) = false ∧ unEval op x = x := by
        rcases hop with h | h | h <;> simp [unEval, h]
      clear hop
      rcases htst with ⟨h1, hu⟩ | ⟨h1, h2, hu⟩ | ⟨h1, h2, hu⟩
      all_goals
        rw [hu]
        clear hu
        go_enter Tryz.func37, Tryz.ntmps37
        go_wp2_with fail
        refine IH.out.mono ?_
        rintro e w1 ⟨rfl, hb1⟩
        obtain ⟨p1, rfl⟩ := gw_of_below hb1
        clear hb1
        go_wp2_with fail
        refine (pranged_any _ 0 _).mono ?_
        rintro e w2 ⟨rfl, hb2⟩
        obtain ⟨p2, rfl⟩ := gw_of_below hb2
        clear hb2
        go_wp2_with fail
        first
          | exact bodyPost_ret (v := .tuple #[.int .i64 (rangedC (-x, 0)).1, .int .i64 (rangedC (-x, 0)).2]) (by simp [results, Tryz.results37, go_sem, *]) rfl ⟨rfl, by (repeat (first | exact Below.refl _ _ | refine Below.drew ?_ | (refine below_gw' ?_ (by first | omega | (simp [go_sem]; done) | (simp [go_sem]; omega)) _) | (refine Below.alloc ?_ (by first | omega | (simp [go_sem]; done) | (simp [go_sem]; omega)) _) | (refine Below.setCell ?_ (by first | omega | (simp [go_sem]; done) | (simp [go_sem]; omega)) _)))⟩
          | exact bodyPost_ret (v := .tuple #[.int .i64 (rangedC (bits .xor .i64 (-1) x, 0)).1, .int .i64 (rangedC (bits .xor .i64 (-1) x, 0)).2]) (by simp [results, Tryz.results37, go_sem, *]) rfl ⟨by rw [xor_m1 x hi1 hi2]; rfl, by (repeat (first | exact Below.refl _ _ | refine Below.drew ?_ | (refine below_gw' ?_ (by first | omega | (simp [go_sem]; done) | (simp [go_sem]; omega)) _) | (refine Below.alloc ?_ (by first | omega | (simp [go_sem]; done) | (simp [go_sem]; omega)) _) | (refine Below.setCell ?_ (by first | omega | (simp [go_sem]; done) | (simp [go_sem]; omega)) _)))⟩
          | exact bodyPost_ret (v := .tuple #[.int .i64 (rangedC (x, 0)).1, .int .i64 (rangedC (x, 0)).2]) (by simp [results, Tryz.results37, go_sem, *]) rfl ⟨rfl, by (repeat (first | exact Below.refl _ _ | refine Below.drew ?_ | (refine below_gw' ?_ (by first | omega | (simp [go_sem]; done) | (simp [go_sem]; omega)) _) | (refine Below.alloc ?_ (by first | omega | (simp [go_sem]; done) | (simp [go_sem]; omega)) _) | (refine Below.setCell ?_ (by first | omega | (simp [go_sem]; done) | (simp [go_sem]; omega)) _)))⟩
    · have hcb : (c == 0) = false := by simpa using hc
      have hcn : (c != 0) = true := by simpa using hc
      rw [if_neg hc]
      clear hop
      go_enter Tryz.func37, Tryz.ntmps37
      go_wp2_with fail
      refine IH.out.mono ?_
      rintro e w1 ⟨rfl, hb1⟩
      obtain ⟨p1, rfl⟩ := gw_of_below hb1
      clear hb1
      go_wp2_with fail
      exact bodyPost_ret (v := .tuple #[.int .i64 0, .int .i64 c]) (by simp [results, Tryz.results37, go_sem, *]) rfl ⟨rfl, by (repeat (first | exact Below.refl _ _ | refine Below.drew ?_ | (refine below_gw' ?_ (by first | omega | (simp [go_sem]; done) | (simp [go_sem]; omega)) _) | (refine Below.alloc ?_ (by first | omega | (simp [go_sem]; done) | (simp [go_sem]; omega)) _) | (refine Below.setCell ?_ (by first | omega | (simp [go_sem]; done) | (simp [go_sem]; omega)) _)))⟩
  | .bin op a b, hg, v, w, hn, hm => by
    obtain ⟨g, va, vb, _, rfl, hb, ha, hbb⟩ := hn
    obtain ⟨hlt, c0, c1, c2, c3, c4⟩ := node_cells hb
    have ih := eval_any env here he hh m a hg.2.1 va w ha hm
    have ihb := fun w' => eval_any env here he hh m b hg.2.2 vb w'
    have hin := eval_in env here he hh a hg.2.1
    have hinb := eval_in env here he hh b hg.2.2
    obtain ⟨ga, rfl, hga⟩ := ha.ptr
    obtain ⟨gb, rfl, hgb⟩ := hbb.ptr
    have hkb : ∀ w', Below w.heap.size w w' → NodeAt 130 0 w' b (.pointer (some ⟨gb, 0, none⟩)) ∧ MapAt w' m env := fun w' h => ⟨hbb.below h, hm.below h⟩
    unfold Ex.eval
    generalize a.eval env here = r at ih hin ⊢
    generalize b.eval env here = rb at ihb hinb ⊢
    obtain ⟨x, c⟩ := r
    obtain ⟨y, d⟩ := rb
    dsimp only at hin hinb
    have hop := hg.1
    have IH := Lib.hid ih; clear ih hm he ha hg
    have IHB := Lib.hid ihb; clear ihb hbb
    have HKB := Lib.hid hkb; clear hkb
    by_cases hc : c = 0
    · subst hc
      rw [if_pos rfl]
      by_cases hd : d = 0
      · subst hd
        rw [if_pos rfl]
        obtain ⟨i, hi, hv, hlt10⟩ : ∃ i, opIdx op = some i ∧ (∀ gg, opVal gg op = .agg #[.int .i64 (opLv i : Nat), .func (.func (opCl i)) #[] #[.pointer (some ⟨gg + i, 0, none⟩)]]) ∧ i < 10 := by
          rw [opLv_eq] at hop
          rcases h : opIdx op with _ | i
          · rw [h] at hop; exact absurd rfl hop
          · refine ⟨i, rfl, fun gg => by unfold opVal; rw [h], ?_⟩
            unfold opIdx at h
            repeat' split at h
            all_goals first | (cases h; omega) | cases h
        have happ := fun g w => apply_any i hlt10 x y g w hin hinb
        have hE : opEval op x y = rangedC (opRaw i x y) := by unfold opEval; rw [hi]
        rw [hE]
        obtain ⟨R, hR⟩ : ∃ R, opRaw i x y = R := ⟨_, rfl⟩
        rw [hR] at happ ⊢
        clear hi hE hR hin hinb hb
        have hcl : opCl i = 140 ∨ opCl i = 141 ∨ opCl i = 142 := by
          have h10 : i = 0 ∨ i = 1 ∨ i = 2 ∨ i = 3 ∨ i = 4 ∨ i = 5 ∨ i = 6 ∨ i = 7 ∨ i = 8 ∨ i = 9 := by omega
          rcases h10 with rfl | rfl | rfl | rfl | rfl | rfl | rfl | rfl | rfl | rfl <;> first | exact .inl rfl | exact .inr (.inl rfl) | exact .inr (.inr rfl)
        rcases hcl with hcl | hcl | hcl
        · rw [hcl] at happ
          exact eval_bin1 op here m w g ga gb i x y R hlt c0 c1 c2 c3 c4 IH (Lib.hid fun w' h => IHB.out w' (HKB.out w' h).1 (HKB.out w' h).2) (Lib.hid hlt10) (Lib.hid fun gg => by rw [← hcl]; exact hv gg) (Lib.hid happ)
        · rw [hcl] at happ
          exact eval_bin2 op here m w g ga gb i x y R hlt c0 c1 c2 c3 c4 IH (Lib.hid fun w' h => IHB.out w' (HKB.out w' h).1 (HKB.out w' h).2) (Lib.hid hlt10) (Lib.hid fun gg => by rw [← hcl]; exact hv gg) (Lib.hid happ)
        · rw [hcl] at happ
          exact eval_bin3 op here m w g ga gb i x y R hlt c0 c1 c2 c3 c4 IH (Lib.hid fun w' h => IHB.out w' (HKB.out w' h).1 (HKB.out w' h).2) (Lib.hid hlt10) (Lib.hid fun gg => by rw [← hcl]; exact hv gg) (Lib.hid happ)
      · have hcb : (d == 0) = false := by simpa using hd
        have hcn : (d != 0) = true := by simpa using hd
        rw [if_neg hd]
        clear hop hin hinb hb
        go_enter Tryz.func37, Tryz.ntmps37
        go_wp2_with fail
        refine IH.out.mono ?_
        rintro e w1 ⟨rfl, hb1⟩
        obtain ⟨p1, rfl⟩ := gw_of_below hb1
        clear hb1
        go_wp2_with fail
        refine (IHB.out _ (HKB.out _ (by (repeat (first | exact Below.refl _ _ | refine Below.drew ?_ | (refine below_gw' ?_ (by first | omega | (simp [go_sem]; done) | (simp [go_sem]; omega)) _) | (refine Below.alloc ?_ (by first | omega | (simp [go_sem]; done) | (simp [go_sem]; omega)) _) | (refine Below.setCell ?_ (by first | omega | (simp [go_sem]; done) | (simp [go_sem]; omega)) _))))).1 (HKB.out _ (by (repeat (first | exact Below.refl _ _ | refine Below.drew ?_ | (refine below_gw' ?_ (by first | omega | (simp [go_sem]; done) | (simp [go_sem]; omega)) _) | (refine Below.alloc ?_ (by first | omega | (simp [go_sem]; done) | (simp [go_sem]; omega)) _) | (refine Below.setCell ?_ (by first | omega | (simp [go_sem]; done) | (simp [go_sem]; omega)) _))))).2).mono ?_
        rintro e w2 ⟨rfl, hb2⟩
        obtain ⟨p2, rfl⟩ := gw_of_below hb2
        clear hb2
        go_wp2_with fail
        exact bodyPost_ret (v := .tuple #[.int .i64 0, .int .i64 d]) (by simp [results, Tryz.results37, go_sem, *]) rfl ⟨rfl, by (repeat (first | exact Below.refl _ _ | refine Below.drew ?_ | (refine below_gw' ?_ (by first | omega | (simp [go_sem]; done) | (simp [go_sem]; omega)) _) | (refine Below.alloc ?_ (by first | omega | (simp [go_sem]; done) | (simp [go_sem]; omega)) _) | (refine Below.setCell ?_ (by first | omega | (simp [go_sem]; done) | (simp [go_sem]; omega)) _)))⟩
    · have hcb : (c == 0) = false := by simpa using hc
      have hcn : (c != 0) = true := by simpa using hc
      rw [if_neg hc]
      clear hop hin hinb hb
      go_enter Tryz.func37, Tryz.ntmps37
      go_wp2_with fail
      refine IH.out.mono ?_
      rintro e w1 ⟨rfl, hb1⟩
      obtain ⟨p1, rfl⟩ := gw_of_below hb1
      clear hb1
      go_wp2_with fail
      exact bodyPost_ret (v := .tuple #[.int .i64 0, .int .i64 c]) (by simp [results, Tryz.results37, go_sem, *]) rfl ⟨rfl, by (repeat (first | exact Below.refl _ _ | refine Below.drew ?_ | (refine below_gw' ?_ (by first | omega | (simp [go_sem]; done) | (simp [go_sem]; omega)) _) | (refine Below.alloc ?_ (by first | omega | (simp [go_sem]; done) | (simp [go_sem]; omega)) _) | (refine Below.setCell ?_ (by first | omega | (simp [go_sem]; done) | (simp [go_sem]; omega)) _)))⟩
end Go.Proofs.YtnjpfhihbjihbaaGreatDoor

/- The closure of (*symbols.Table).Known. -/
namespace Go.Proofs.YtnjpfhihbjihbaaGreatDoor
open Go.RowKit Go.Sort

open Go.ChangeMaps
def seenS (l : List (ByteArray × Value)) (t : ByteArray) : Prop := (sget l t).isSome = true
/-- The world of the closure: what it has captured, the table, the set of those seen, the map of values. -/
structure VisW (w : World) (ct cs co cv g b bs bo : Nat) (M : List (Sy × Value)) (lS lO : List (ByteArray × Value)) (O : Env) : Prop where
  t : w.cell? ⟨ct, 0, none⟩ = some (.pointer (some ⟨g, 0, none⟩))
  s : w.cell? ⟨cs, 0, none⟩ = some (.map (some bs))
  o : w.cell? ⟨co, 0, none⟩ = some (.map (some bo))
  v : w.cell? ⟨cv, 0, none⟩ = some (.func (.func 46) #[] #[.pointer (some ⟨ct, 0, none⟩), .pointer (some ⟨cs, 0, none⟩), .pointer (some ⟨co, 0, none⟩), .pointer (some ⟨cv, 0, none⟩)])
  tab : TabIn w g b M
  sm : SMap w bs lS
  om : SMap w bo lO
  sb : ∀ t v, sget lS t = some v → v = .bool true
  ob : ∀ t, sget lO t = (O t).map (Value.int .i64)
  n1 : b ≠ bs
  n2 : b ≠ bo
  n3 : bs ≠ bo
theorem VisW.k2 {w w' : World} {ct cs co cv g b bs bo : Nat} {M : List (Sy × Value)} {lS lO lS' lO' : List (ByteArray × Value)} {O O' : Env} (h : VisW w ct cs co cv g b bs bo M lS lO O) (hk : K2 bs bo w w') (hS : SMap w' bs lS') (hO : SMap w' bo lO') (hs : ∀ t v, sget lS' t = some v → v = .bool true) (ho : ∀ t, sget lO' t = (O' t).map (Value.int .i64)) :
    VisW w' ct cs co cv g b bs bo M lS' lO' O' :=
  have hc := hk.ck h.sm h.om
  ⟨hc.cell h.t, hc.cell h.s, hc.cell h.o, hc.cell h.v, h.tab.ck hc (hk.block b h.tab.map.lt h.n1 h.n2), hS, hO, hs, ho, h.n1, h.n2, h.n3⟩
theorem VisW.below {w w' : World} {ct cs co cv g b bs bo : Nat} {M : List (Sy × Value)} {lS lO : List (ByteArray × Value)} {O : Env} (h : VisW w ct cs co cv g b bs bo M lS lO O) (hb : Below w.heap.size w w') : VisW w' ct cs co cv g b bs bo M lS lO O :=
  h.k2 (.of_below hb) (h.sm.below hb) (h.om.below hb) h.sb h.ob
/-- What the closure leaves. -/
def VisPost (ct cs co cv g b bs bo : Nat) (M : List (Sy × Value)) (A : ByteArray → Prop) (lS : List (ByteArray × Value)) (name : ByteArray) (w : World) (e : Ending) (w' : World) : Prop :=
  e = .returned (.tuple #[]) ∧ ∃ lS' lO' O', VisW w' ct cs co cv g b bs bo M lS' lO' O' ∧ Vis (M.map Prod.fst) A (seenS lS') O' ∧ (∀ t, seenS lS t → seenS lS' t) ∧ ((∃ s, sfindS (M.map Prod.fst) name = some s) → seenS lS' name) ∧ K2 bs bo w w'
/-- How many symbols have not been seen. -/
def unseen (M : List (Sy × Value)) (l : List (ByteArray × Value)) : Nat := (M.filter fun x => (sget l x.1.name).isNone).length
theorem filter_le {α : Type} (p q : α → Bool) (l : List α) (h : ∀ x ∈ l, q x = true → p x = true) : (l.filter q).length ≤ (l.filter p).length := by
  induction l with
  | nil => simp
  | cons c l ih =>
    have := ih fun x hx => h x (List.mem_cons_of_mem _ hx)
    have hc := h c List.mem_cons_self
    rw [List.filter_cons, List.filter_cons]
    by_cases h1 : q c = true
    · rw [if_pos h1, if_pos (hc h1)]; simpa using this
    · rw [if_neg h1]; split <;> simp <;> omega
theorem filter_lt {α : Type} (p q : α → Bool) : ∀ (l : List α), (∀ x ∈ l, q x = true → p x = true) → (∃ x ∈ l, p x = true ∧ q x = false) → (l.filter q).length < (l.filter p).length
  | [], _, ⟨x, hx, _⟩ => by cases hx
  | a :: l, h, ⟨x, hx, hp, hq⟩ => by
    have hle : (l.filter q).length ≤ (l.filter p).length := filter_le p q l fun x hx => h x (List.mem_cons_of_mem _ hx)
    rcases List.mem_cons.1 hx with rfl | hx
    · rw [List.filter_cons_of_pos hp, List.filter_cons_of_neg (by simp [hq])]
      simp; omega
    · have ih := filter_lt p q l (fun x hx => h x (List.mem_cons_of_mem _ hx)) ⟨x, hx, hp, hq⟩
      rw [List.filter_cons, List.filter_cons]
      have ha := h a List.mem_cons_self
      by_cases h1 : q a = true
      · rw [if_pos h1, if_pos (ha h1)]; simpa using ih
      · rw [if_neg h1]; split <;> simp <;> omega
theorem unseen_le {M : List (Sy × Value)} {l l' : List (ByteArray × Value)} (h : ∀ t, seenS l t → seenS l' t) : unseen M l' ≤ unseen M l := by
  refine filter_le _ _ _ fun x _ hq => ?_
  have := h x.1.name
  unfold seenS at this
  rw [Option.isNone_iff_eq_none] at hq ⊢
  rcases hs : sget l x.1.name with _ | v
  · rfl
  · rw [hs, hq] at this; simp at this
theorem unseen_lt {M : List (Sy × Value)} {l l' : List (ByteArray × Value)} (h : ∀ t, seenS l t → seenS l' t) {x : Sy × Value} (hx : x ∈ M) (h1 : sget l x.1.name = none) (h2 : seenS l' x.1.name) : unseen M l' < unseen M l := by
  refine filter_lt _ _ _ (fun x _ hq => ?_) ⟨x, hx, by simp [h1], ?_⟩
  · have := h x.1.name
    unfold seenS at this
    rw [Option.isNone_iff_eq_none] at hq ⊢
    rcases hs : sget l x.1.name with _ | v
    · rfl
    · rw [hs, hq] at this; simp at this
  · unfold seenS at h2
    rcases hs : sget l' x.1.name with _ | v
    · rw [hs] at h2; simp at h2
    · rfl
theorem seen_put (l : List (ByteArray × Value)) (s t : ByteArray) (v : Value) : seenS (sput l s v) t ↔ seenS l t ∨ t = s := by
  unfold seenS
  rw [sget_sput, bbeq]
  by_cases h : t = s
  · simp [h]
  · simp [h]
theorem some_put {l : List (ByteArray × Value)} (h : ∀ t v, sget l t = some v → v = .bool true) (s : ByteArray) : ∀ t v, sget (sput l s (.bool true)) t = some v → v = .bool true := fun t v hv => by
  rw [sget_sput] at hv
  split at hv
  · cases hv; rfl
  · exact h t v hv
end Go.Proofs.YtnjpfhihbjihbaaGreatDoor

/- The closure of (*symbols.Table).Known: its walk. -/
namespace Go.Proofs.YtnjpfhihbjihbaaGreatDoor
open Go.RowKit Go.Sort

open Go.ChangeMaps
abbrev visArgs (name : ByteArray) (ct cs co cv : Nat) : Array Value := #[.string name, .pointer (some ⟨ct, 0, none⟩), .pointer (some ⟨cs, 0, none⟩), .pointer (some ⟨co, 0, none⟩), .pointer (some ⟨cv, 0, none⟩)]
set_option maxHeartbeats 1000000 in
set_option maxRecDepth 100000 in
/-- A name that is not defined. -/
theorem visit_no (ct cs co cv g b bs bo : Nat) (M : List (Sy × Value)) (name : ByteArray) (A : ByteArray → Prop) (w : World) (lS lO : List (ByteArray × Value)) (O : Env) (hw : VisW w ct cs co cv g b bs bo M lS lO O) (hv : Vis (M.map Prod.fst) A (seenS lS) O) (hno : sget (M.map symP) name = none) (hno2 : sfindS (M.map Prod.fst) name = none) :
    Calls Tryz.prog 46 (visArgs name ct cs co cv) w (VisPost ct cs co cv g b bs bo M A lS name w) := by
  have c1 := hw.t
  have c2 := hw.tab.cell
  have hg : g < w.heap.size := lt_of_block hw.tab.head
  have hct := cell_lt c1
  have hlk := run_sget (P := Tryz.prog) Tryz.underlying103 Tryz.underlying9 zeroSym hw.tab.map name true
  rw [hno] at hlk
  simp only [Option.getD_none, Option.isSome_none, if_true] at hlk
  have HW := Lib.hid hw; clear hw
  have HV := Lib.hid hv; clear hv
  have HN := Lib.hid hno2; clear hno hno2
  go_enter Tryz.func46, Tryz.ntmps46
  go_wp2_with fail
  go_end0
  refine ⟨rfl, lS, lO, O, HW.out.below (by (repeat (first | exact Below.refl _ _ | refine Below.drew ?_ | (refine below_gw' ?_ (by first | omega | (simp [go_sem]; done) | (simp [go_sem]; omega)) _) | (refine Below.alloc ?_ (by first | omega | (simp [go_sem]; done) | (simp [go_sem]; omega)) _) | (refine Below.setCell ?_ (by first | omega | (simp [go_sem]; done) | (simp [go_sem]; omega)) _)))), HV.out, fun _ h => h, fun h => ?_, .of_below (by (repeat (first | exact Below.refl _ _ | refine Below.drew ?_ | (refine below_gw' ?_ (by first | omega | (simp [go_sem]; done) | (simp [go_sem]; omega)) _) | (refine Below.alloc ?_ (by first | omega | (simp [go_sem]; done) | (simp [go_sem]; omega)) _) | (refine Below.setCell ?_ (by first | omega | (simp [go_sem]; done) | (simp [go_sem]; omega)) _))))⟩
  obtain ⟨s, hs⟩ := h
  rw [HN.out] at hs; cases hs
set_option maxHeartbeats 1000000 in
set_option maxRecDepth 100000 in
/-- A name that has been seen. -/
theorem visit_seen (ct cs co cv g b bs bo : Nat) (M : List (Sy × Value)) (name : ByteArray) (A : ByteArray → Prop) (w : World) (lS lO : List (ByteArray × Value)) (O : Env) (hw : VisW w ct cs co cv g b bs bo M lS lO O) (hv : Vis (M.map Prod.fst) A (seenS lS) O) (hs : seenS lS name) :
    Calls Tryz.prog 46 (visArgs name ct cs co cv) w (VisPost ct cs co cv g b bs bo M A lS name w) := by
  rcases sget_symP M name with ⟨h1, h2⟩ | ⟨x, hx, h1, _⟩
  · exact visit_no ct cs co cv g b bs bo M name A w lS lO O hw hv h1 h2
  have c1 := hw.t
  have c2 := hw.tab.cell
  have c3 := hw.s
  have hg : g < w.heap.size := lt_of_block hw.tab.head
  have hct := cell_lt c1
  have hcs := cell_lt c3
  obtain ⟨px, hpx⟩ := (hw.tab.node x hx).ptr
  have hlk := run_sget (P := Tryz.prog) Tryz.underlying103 Tryz.underlying9 zeroSym hw.tab.map name true
  rw [h1, hpx] at hlk
  simp only [symV, Option.getD_some, Option.isSome_some, if_true] at hlk
  have hls := fun w' (hb : Below w.heap.size w w') => run_sget (P := Tryz.prog) Tryz.underlying98 Tryz.underlying9 zeroBool (hw.sm.below hb) name false
  have hst : sget lS name = some (.bool true) := by
    unfold seenS at hs
    obtain ⟨v, hv⟩ := Option.isSome_iff_exists.1 hs
    rw [hv, hw.sb name v hv]
  rw [hst] at hls
  simp only [Option.getD_some, Bool.false_eq_true, if_false] at hls
  have hls1 := hls (w.alloc (.cells #[.int .i64 x.1.n, .pointer px, .int .i64 x.1.here, .int .i64 x.1.line] 101)) (by (repeat (first | exact Below.refl _ _ | refine Below.drew ?_ | (refine below_gw' ?_ (by first | omega | (simp [go_sem]; done) | (simp [go_sem]; omega)) _) | (refine Below.alloc ?_ (by first | omega | (simp [go_sem]; done) | (simp [go_sem]; omega)) _) | (refine Below.setCell ?_ (by first | omega | (simp [go_sem]; done) | (simp [go_sem]; omega)) _))))
  have HW := Lib.hid hw; clear hw
  have HV := Lib.hid hv; clear hv
  have HS := Lib.hid hs; clear hs hst hls h1 hpx hx
  go_enter Tryz.func46, Tryz.ntmps46
  go_wp2_with fail
  go_end0
  exact ⟨rfl, lS, lO, O, HW.out.below (by (repeat (first | exact Below.refl _ _ | refine Below.drew ?_ | (refine below_gw' ?_ (by first | omega | (simp [go_sem]; done) | (simp [go_sem]; omega)) _) | (refine Below.alloc ?_ (by first | omega | (simp [go_sem]; done) | (simp [go_sem]; omega)) _) | (refine Below.setCell ?_ (by first | omega | (simp [go_sem]; done) | (simp [go_sem]; omega)) _)))), HV.out, fun _ h => h, fun _ => HS.out, .of_below (by (repeat (first | exact Below.refl _ _ | refine Below.drew ?_ | (refine below_gw' ?_ (by first | omega | (simp [go_sem]; done) | (simp [go_sem]; omega)) _) | (refine Below.alloc ?_ (by first | omega | (simp [go_sem]; done) | (simp [go_sem]; omega)) _) | (refine Below.setCell ?_ (by first | omega | (simp [go_sem]; done) | (simp [go_sem]; omega)) _))))⟩
end Go.Proofs.YtnjpfhihbjihbaaGreatDoor
