/- Joined texts: ParsU, PSize. -/
import Derived.Test.YtnjpfhihbjihbaaGreatDoorS09
import Derived.Test.YtnjpfhihbjihbaaGreatDoorS10
/- The parser: unary, binary. -/
namespace Go.Proofs.YtnjpfhihbjihbaaGreatDoor
open Go.RowKit Go.Sort

set_option maxHeartbeats 4000000 in
set_option maxRecDepth 100000 in
theorem unary_step (l : List Tok) (ih : ∀ l' : List Tok, l'.length < l.length → UC l') (ho : OC l) : UC l := by
  intro b w hs hS
  have hb : b < w.heap.size := hS.lt
  have hsg := fun w hS => psign_any l b w hS hs
  obtain ⟨N, hN⟩ : ∃ N, hdn l = N := ⟨_, rfl⟩
  have HSG := Lib.hid hsg; clear hsg
  have HS := Lib.hid hS; clear hS
  by_cases hU : N.toList = [45] ∨ N.toList = [43] ∨ N.toList = [126]
  · rcases l with _ | ⟨t, l⟩
    · exfalso
      have : N = ⟨#[]⟩ := hN.symm
      subst this
      rw [ByteArray.toList_eq] at hU
      rcases hU with h | h | h <;> cases h
    have hu : exLang.isU t = true := by
      show tU t = true
      unfold tU
      rw [show tnm t = N from hN]
      rcases hU with h | h | h <;> simp [h]
    have hnm : tnm t = N := hN
    have ihl := ih l (by simp)
    have hsl := hs.tail
    have HU := Lib.hid hu; clear hu
    have HNM := Lib.hid hnm; clear hnm ih ho hs
    have HIH := Lib.hid ihl; clear ihl
    have HSL := Lib.hid hsl; clear hsl
    rw [hN] at HSG
    clear hN
    have htst : (N.toList == [45]) = true ∨ ((N.toList == [45]) = false ∧ (N.toList == [43]) = true) ∨ ((N.toList == [45]) = false ∧ (N.toList == [43]) = false ∧ (N.toList == [126]) = true) := by
      rcases hU with h | h | h <;> simp [h]
    clear hU
    rcases htst with h1 | ⟨h1, h2⟩ | ⟨h1, h2, h3⟩
    all_goals
      go_enter Tryz.func121, Tryz.ntmps121
      go_wp2_with fail
      refine (HSG.out _ HS.out).mono ?_
      rintro e w1 ⟨rfl, hb1⟩
      obtain ⟨p1, rfl⟩ := gw_of_below hb1
      clear hb1
      go_wp2_with fail
      refine (take_some _ l b _ (HS.out.gw _)).mono ?_
      rintro e w2 ⟨rfl, hS2, hK2⟩
      have HK := Lib.hid (Kb.trans (by (with_reducible repeat (first | refine Kb.gw ?_ _ | refine Kb.setCell ?_ _ _ | refine Kb.alloc ?_ _ | refine Kb.drew ?_ | exact Kb.refl _ _ | exact HK.out)) : Kb b w _) hK2); clear hK2
      have hb2 : b < w2.heap.size := hS2.lt
      have HS2 := Lib.hid hS2; clear hS2
      go_wp2_with fail
      refine (HIH.out b _ HSL.out HS2.out).mono ?_
      rintro e w3 ⟨res, hpu, hk3, hres⟩
      have HPU := Lib.hid hpu; clear hpu
      have HK3 := Lib.hid (Kb.trans (by (with_reducible repeat (first | refine Kb.gw ?_ _ | refine Kb.setCell ?_ _ _ | refine Kb.alloc ?_ _ | refine Kb.drew ?_ | exact Kb.refl _ _ | exact HK.out)) : Kb b w _) hk3); clear hk3 HK
      have HK := HK3
      rcases res with _ | ⟨x, rest⟩
      · simp only at hres
        subst hres
        go_wp2_with fail
        refine ⟨rfl, ?_⟩
        exact ⟨none, .un t l none HU.out HPU.out, by (with_reducible repeat (first | refine Kb.gw ?_ _ | refine Kb.setCell ?_ _ _ | refine Kb.alloc ?_ _ | refine Kb.drew ?_ | exact Kb.refl _ _ | exact HK.out)), rfl⟩
      · obtain ⟨v, rfl, hn3, hs3⟩ := hres
        obtain ⟨gv, rfl, hgv⟩ := hn3.ptr
        have hb3 : b < w3.heap.size := hs3.lt
        have HN3 := Lib.hid hn3; clear hn3
        have HS3 := Lib.hid hs3; clear hs3
        go_wp2_with fail
        go_ret
        refine ⟨some (.un N x, rest), ?_, by (with_reducible repeat (first | refine Kb.gw ?_ _ | refine Kb.setCell ?_ _ _ | refine Kb.alloc ?_ _ | refine Kb.drew ?_ | exact Kb.refl _ _ | exact HK.out)), _, rfl, ⟨w3.heap.size, _, by omega, rfl, alloc_at' _ _, NodeAt.below HN3.out (by (repeat (first | exact Below.refl _ _ | refine Below.drew ?_ | (refine below_gw' ?_ (by first | omega | (simp [go_sem]; done) | (simp [go_sem]; omega)) _) | (refine Below.alloc ?_ (by first | omega | (simp [go_sem]; done) | (simp [go_sem]; omega)) _) | (refine Below.setCell ?_ (by first | omega | (simp [go_sem]; done) | (simp [go_sem]; omega)) _))))⟩, HS3.out.alloc _⟩
        have h := P.un (S := exLang) t l _ HU.out HPU.out
        rw [← HNM.out]
        exact h
  · have hu : ∀ t r, l = t :: r → tU t = false := fun t r h => by
      subst h
      unfold tU
      rw [show tnm t = N from hN]
      by_cases h1 : N.toList = [45]
      · exact absurd (.inl h1) hU
      · by_cases h2 : N.toList = [43]
        · exact absurd (.inr (.inl h2)) hU
        · by_cases h3 : N.toList = [126]
          · exact absurd (.inr (.inr h3)) hU
          · simp [h1, h2, h3]
    have n45 : (N.toList == [45]) = false := by simp; intro h; exact hU (.inl h)
    have n43 : (N.toList == [43]) = false := by simp; intro h; exact hU (.inr (.inl h))
    have n126 : (N.toList == [126]) = false := by simp; intro h; exact hU (.inr (.inr h))
    have hoc := fun w hS => ho b w hs hS hu
    have HO := Lib.hid hoc; clear hoc
    rw [hN] at HSG
    clear hN ih hs hu hU ho
    go_enter Tryz.func121, Tryz.ntmps121
    go_wp2_with fail
    refine (HSG.out _ HS.out).mono ?_
    rintro e w1 ⟨rfl, hb1⟩
    obtain ⟨p1, rfl⟩ := gw_of_below hb1
    clear hb1
    go_wp2_with fail
    refine (HO.out _ (HS.out.gw _)).mono ?_
    rintro e w3 ⟨res, hpu, hk3, hres⟩
    have HPU := Lib.hid hpu; clear hpu
    have HK := Lib.hid (Kb.trans (by (with_reducible repeat (first | refine Kb.gw ?_ _ | refine Kb.setCell ?_ _ _ | refine Kb.alloc ?_ _ | refine Kb.drew ?_ | exact Kb.refl _ _ | exact HK.out)) : Kb b w _) hk3); clear hk3
    rcases res with _ | ⟨x, rest⟩
    · simp only at hres
      subst hres
      go_wp2_with fail
      refine ⟨rfl, ?_⟩
      exact ⟨none, HPU.out, by (with_reducible repeat (first | refine Kb.gw ?_ _ | refine Kb.setCell ?_ _ _ | refine Kb.alloc ?_ _ | refine Kb.drew ?_ | exact Kb.refl _ _ | exact HK.out)), rfl⟩
    · obtain ⟨v, rfl, hn3, hs3⟩ := hres
      have HN3 := Lib.hid hn3; clear hn3
      have HS3 := Lib.hid hs3; clear hs3
      go_wp2_with fail
      go_ret
      exact ⟨some (x, rest), HPU.out, by (with_reducible repeat (first | refine Kb.gw ?_ _ | refine Kb.setCell ?_ _ _ | refine Kb.alloc ?_ _ | refine Kb.drew ?_ | exact Kb.refl _ _ | exact HK.out)), v, rfl, HN3.out, HS3.out⟩

/-- How many tokens are left. -/
def leftAt (w : World) (b : Nat) : Nat := match w.cell? ⟨b, 0, none⟩ with | some (.slice _ n _) => n | _ => 0
theorem StrAt.left {w : World} {b : Nat} {l : List Tok} (h : StrAt w b l) : leftAt w b = l.length := by
  obtain ⟨a, cap, h1, _⟩ := h
  unfold leftAt
  simp [World.cell?, h1]
theorem lvl_none : lvlS (hdn []) = 0 := by
  show lvlL (ByteArray.toList ⟨#[]⟩) = 0
  rw [ByteArray.toList_eq]; rfl

set_option maxHeartbeats 4000000 in
set_option maxRecDepth 100000 in
theorem binary_step (l : List Tok) (hu : UC l) (ih : ∀ l' : List Tok, l'.length < l.length → BC l') : BC l := by
  intro lv b w hs hS
  have hb : b < w.heap.size := hS.lt
  have HIH := Lib.hid ih; clear ih
  have hul := fun w hS => hu b w hs hS
  have HUL := Lib.hid hul; clear hul hu
  have HS := Lib.hid hS; clear hS
  have HSM := Lib.hid hs; clear hs
  go_enter Tryz.func70, Tryz.ntmps70
  go_wp2_with fail
  refine (HUL.out _ HS.out).mono ?_
  rintro e w1 ⟨res, hpu, hk1, hres⟩
  have HPU := Lib.hid hpu; clear hpu
  have HK := Lib.hid hk1; clear hk1
  rcases res with _ | ⟨x, r⟩
  · simp only at hres
    subst hres
    go_wp2_with fail
    refine ⟨rfl, ?_⟩
    exact ⟨none, .binN lv l HPU.out, by (with_reducible repeat (first | refine Kb.gw ?_ _ | refine Kb.setCell ?_ _ _ | refine Kb.alloc ?_ _ | refine Kb.drew ?_ | exact Kb.refl _ _ | exact HK.out)), rfl⟩
  · obtain ⟨v, rfl, hn1, hs1⟩ := hres
    obtain ⟨gv, rfl, hgv⟩ := hn1.ptr
    have hends := (P.ends HPU.out x r rfl).1 l rfl
    have hsm : Small r ∧ r.length < l.length := by
      obtain ⟨l1, h, hne⟩ := hends
      have h2 := HSM.out
      rw [h] at h2
      refine ⟨h2.suffix, ?_⟩
      rw [h, List.length_append]
      have : 0 < l1.length := List.length_pos_iff.2 hne
      omega
    clear hends
    have HN1 := Lib.hid hn1; clear hn1
    have HS1 := Lib.hid hs1; clear hs1
    have HSM1 := Lib.hid hsm; clear hsm
    have hstart : ∀ res, P exLang (.L lv x r) res → P exLang (.B lv l) res := fun res h => .bin lv l r x res HPU.out h
    have HST := Lib.hid hstart; clear hstart
    go_wp2_with fail
    go_loopw [5, 6, 7] (fun v _ _ wr => ∃ (x : Ex) (r : List Tok) (gx : Nat), v = .pointer (some ⟨gx, 0, none⟩) ∧ r.length < l.length ∧ Small r ∧ NodeAt 130 (b + 1) wr x v ∧ StrAt wr b r ∧ Kb b w wr ∧ Hid (∀ res, P exLang (.L lv x r) res → P exLang (.B lv l) res)) (fun _ _ _ wr => leftAt wr b)
    case atStart => exact ⟨x, r, gv, rfl, HSM1.out.2, HSM1.out.1, HN1.out, HS1.out, HK.out, HST⟩
    case round =>
      obtain ⟨x, r, gx, rfl, hrl, hrs, hnr, hsr, hkr, HR⟩ := hrel
      clear HN1 HS1 HSM1 HST HPU HS HUL HK
      have hbr : b < wr.heap.size := hsr.lt
      have hsg := fun w hS => psign_any r b w hS hrs
      obtain ⟨L, hL⟩ : ∃ L, lvlS (hdn r) = L := ⟨_, rfl⟩
      have hL6 : L ≤ 6 := by rw [← hL]; exact lvlL_le _
      have hlev := fun w => level_any (hdn r) w
      simp only [hL] at hlev
      have HSG := Lib.hid hsg; clear hsg
      have HLEV := Lib.hid hlev; clear hlev
      have HNR := Lib.hid hnr; clear hnr
      have HSR := Lib.hid hsr; clear hsr
      have HK := Lib.hid hkr; clear hkr
      obtain ⟨N, hN⟩ : ∃ N, hdn r = N := ⟨_, rfl⟩
      rw [hN] at HSG HLEV hL
      by_cases hstop : L = 0 ∨ L < lv
      · have hst : Stop exLang lv r := fun t r' h => by
          subst h
          have : exLang.lvl t = L := by show lvlS (tnm t) = L; rw [show tnm t = N from hN]; exact hL
          omega
        have hp := HR.out _ (.stop lv x r hst)
        have HP := Lib.hid hp; clear hp hst hL hN
        have htst : ((L : Int) == 0) = true ∨ (((L : Int) == 0) = false ∧ (L : Int) < (lv : Int)) := by
          by_cases h0 : L = 0
          · left; subst h0; rfl
          · right; refine ⟨by simp; omega, by omega⟩
        rcases htst with h1 | ⟨h1, h2⟩
        all_goals
          go_wp2_with fail
          refine (HSG.out _ HSR.out).mono ?_
          rintro e w2 ⟨rfl, hb2⟩
          obtain ⟨p2, rfl⟩ := gw_of_below hb2
          clear hb2
          go_wp2_with fail
          refine (HLEV.out _).mono ?_
          rintro e w3 ⟨rfl, hb3⟩
          obtain ⟨p3, rfl⟩ := gw_of_below hb3
          clear hb3
          go_wp2_with fail
          go_ret
          exact ⟨some (x, r), HP.out, by (with_reducible repeat (first | refine Kb.gw ?_ _ | refine Kb.setCell ?_ _ _ | refine Kb.alloc ?_ _ | refine Kb.drew ?_ | exact Kb.refl _ _ | exact HK.out)), _, rfl, NodeAt.below (NodeAt.below HNR.out (below_gw _ _)) (below_gw _ _), (HSR.out.gw _).gw _⟩
      · have h1 : ((L : Int) == 0) = false := by simp; omega
        have h2 : ¬ (L : Int) < (lv : Int) := by omega
        rcases r with _ | ⟨t, r⟩
        · exfalso
          apply hstop; left; rw [← hL, ← hN]; exact lvl_none
        have hlvt : exLang.lvl t = L := by show lvlS (tnm t) = L; rw [show tnm t = N from hN]; exact hL
        have hnm : tnm t = N := hN
        have hbc := HIH.out r (by simp at hrl; omega)
        have hrs2 := hrs.tail
        have hrl2 : r.length + 1 < l.length := by simpa using hrl
        have HBC := Lib.hid hbc; clear hbc
        have HLV := Lib.hid hlvt; clear hlvt
        have HNM := Lib.hid hnm; clear hnm hN hL hrs hrl
        have HRS := Lib.hid hrs2; clear hrs2
        go_wp2_with fail
        refine (HSG.out _ HSR.out).mono ?_
        rintro e w2 ⟨rfl, hb2⟩
        obtain ⟨p2, rfl⟩ := gw_of_below hb2
        clear hb2
        go_wp2_with fail
        refine (HLEV.out _).mono ?_
        rintro e w3 ⟨rfl, hb3⟩
        obtain ⟨p3, rfl⟩ := gw_of_below hb3
        clear hb3
        go_wp2_with fail
        refine (take_some _ r b _ ((HSR.out.gw _).gw _)).mono ?_
        rintro e w4 ⟨rfl, hS4, hK4⟩
        have hn4 := NodeAt.kb (NodeAt.below (NodeAt.below HNR.out (below_gw _ p2)) (below_gw _ p3)) hK4 (by omega)
        have HN4 := Lib.hid hn4; clear hn4
        have HK4 := Lib.hid (Kb.trans (by (with_reducible repeat (first | refine Kb.gw ?_ _ | refine Kb.setCell ?_ _ _ | refine Kb.alloc ?_ _ | refine Kb.drew ?_ | exact Kb.refl _ _ | exact HK.out)) : Kb b w _) hK4); clear hK4 HK
        have HK := HK4
        have hb4 : b < w4.heap.size := hS4.lt
        have HS4 := Lib.hid hS4; clear hS4
        have hcall : Calls Tryz.prog 70 #[.pointer (some ⟨b, 0, none⟩), .int .i64 ((L : Int) + 1)] w4 (BRes (L + 1) r b w4) := by
          have h := HBC.out (L + 1) b w4 HRS.out HS4.out
          rw [show (((L + 1 : Nat) : Int)) = (L : Int) + 1 by omega] at h
          exact h
        have HCALL := Lib.hid hcall; clear hcall
        go_wp2_with fail
        refine HCALL.out.mono ?_
        rintro e w5 ⟨res, hpb, hk5, hres⟩
        have hpb' : P exLang (.B (exLang.lvl t + 1) r) res := by rw [HLV.out]; exact hpb
        have HPB := Lib.hid hpb'; clear hpb hpb'
        have hn5 := NodeAt.kb HN4.out hk5 (by omega)
        have HN5 := Lib.hid hn5; clear hn5
        have HK5 := Lib.hid (Kb.trans (by (with_reducible repeat (first | refine Kb.gw ?_ _ | refine Kb.setCell ?_ _ _ | refine Kb.alloc ?_ _ | refine Kb.drew ?_ | exact Kb.refl _ _ | exact HK.out)) : Kb b w _) hk5); clear hk5 HK HK4
        have HK := HK5
        have hl0 : exLang.lvl t ≠ 0 := by rw [HLV.out]; omega
        have hl1 : ¬ exLang.lvl t < lv := by rw [HLV.out]; omega
        have HL0 := Lib.hid hl0; clear hl0
        have HL1 := Lib.hid hl1; clear hl1
        rcases res with _ | ⟨y, r2⟩
        · simp only at hres
          subst hres
          go_wp2_with fail
          refine ⟨rfl, ?_⟩
          exact ⟨none, HR.out _ (.stepN lv x t r HL0.out HL1.out HPB.out), by (with_reducible repeat (first | refine Kb.gw ?_ _ | refine Kb.setCell ?_ _ _ | refine Kb.alloc ?_ _ | refine Kb.drew ?_ | exact Kb.refl _ _ | exact HK.out)), rfl⟩
        · obtain ⟨vy, rfl, hny, hsy⟩ := hres
          obtain ⟨gy, rfl, hgy⟩ := hny.ptr
          have hends := (P.ends HPB.out y r2 rfl).2 _ r rfl
          have hsm : Small r2 ∧ r2.length < r.length := by
            obtain ⟨l1, h, hne⟩ := hends
            have h2 := HRS.out
            rw [h] at h2
            refine ⟨h2.suffix, ?_⟩
            rw [h, List.length_append]
            have : 0 < l1.length := List.length_pos_iff.2 hne
            omega
          clear hends
          have hb5 : b < w5.heap.size := hsy.lt
          have HNY := Lib.hid hny; clear hny
          have HSY := Lib.hid hsy; clear hsy
          have HSM2 := Lib.hid hsm; clear hsm
          have hnext : ∀ res, P exLang (.L lv (.bin N x y) r2) res → P exLang (.B lv l) res := fun res h => by
            refine HR.out _ (.step lv x y t r r2 res HL0.out HL1.out HPB.out ?_)
            rw [show exLang.bin t x y = Ex.bin (tnm t) x y from rfl, HNM.out]
            exact h
          have HNX := Lib.hid hnext; clear hnext
          go_wp2_with fail
          go_roundw
          case rel => exact ⟨.bin N x y, r2, _, rfl, by have := HSM2.out.2; omega, HSM2.out.1, ⟨w5.heap.size, _, _, by omega, rfl, alloc_at' _ _, NodeAt.below HN5.out (by (repeat (first | exact Below.refl _ _ | refine Below.drew ?_ | (refine below_gw' ?_ (by first | omega | (simp [go_sem]; done) | (simp [go_sem]; omega)) _) | (refine Below.alloc ?_ (by first | omega | (simp [go_sem]; done) | (simp [go_sem]; omega)) _) | (refine Below.setCell ?_ (by first | omega | (simp [go_sem]; done) | (simp [go_sem]; omega)) _)))), NodeAt.below HNY.out (by (repeat (first | exact Below.refl _ _ | refine Below.drew ?_ | (refine below_gw' ?_ (by first | omega | (simp [go_sem]; done) | (simp [go_sem]; omega)) _) | (refine Below.alloc ?_ (by first | omega | (simp [go_sem]; done) | (simp [go_sem]; omega)) _) | (refine Below.setCell ?_ (by first | omega | (simp [go_sem]; done) | (simp [go_sem]; omega)) _))))⟩, HSY.out.alloc _, by (with_reducible repeat (first | refine Kb.gw ?_ _ | refine Kb.setCell ?_ _ _ | refine Kb.alloc ?_ _ | refine Kb.drew ?_ | exact Kb.refl _ _ | exact HK.out)), HNX⟩
          case measure => rw [(HSY.out.alloc _).left, HSR.out.left]; have := HSM2.out.2; simp; omega

/-- The three methods, on every list of tokens. -/
theorem parser_any : ∀ (n : Nat) (l : List Tok), l.length ≤ n → UC l ∧ BC l
  | _, l, _ => by
    have ih : ∀ l' : List Tok, l'.length < l.length → UC l' ∧ BC l' := fun l' h => parser_any l'.length l' (Nat.le_refl _)
    have ho := operand_step l (fun l' h => (ih l' h).2)
    have hu := unary_step l (fun l' h => (ih l' h).1) ho
    exact ⟨hu, binary_step l hu (fun l' h => (ih l' h).2)⟩
  termination_by _ l => l.length
theorem binary_any (l : List Tok) : BC l := (parser_any l.length l (Nat.le_refl _)).2
end Go.Proofs.YtnjpfhihbjihbaaGreatDoor

/- An expression has no more nodes than tokens. No program in sight. -/
namespace Go.Proofs.YtnjpfhihbjihbaaGreatDoor
open Go.RowKit Go.Sort

def stM : St Tok Ex → Nat | .U l => l.length | .B _ l => l.length | .L _ a l => a.nodes + l.length
theorem atom_nodes {t : Tok} {e : Ex} (h : tatom t = some e) : e.nodes = 1 := by
  unfold tatom at h
  repeat' split at h
  all_goals (first | cases h; rfl | cases h)
theorem P.size {s : St Tok Ex} {res : Option (Ex × List Tok)} (h : P exLang s res) : ∀ x r, res = some (x, r) → x.nodes + r.length ≤ stM s := by
  induction h with
  | binN lv l h ih => intro x r e; cases e
  | bin lv l r a res h1 h2 ih1 ih2 =>
    intro x r' e
    have a1 := ih1 a r rfl
    have a2 := ih2 x r' e
    simp only [stM] at *
    omega
  | stop lv a r h => intro x r' e; cases e; exact Nat.le_refl _
  | step lv a b t r r' res h0 h1 h2 h3 ih1 ih2 =>
    intro x r2 e
    have a1 := ih1 b r' rfl
    have a2 := ih2 x r2 e
    simp only [stM, exLang, Ex.nodes, List.length_cons] at *
    omega
  | stepN lv a t r h0 h1 h2 ih => intro x r e; cases e
  | nil => intro x r e; cases e
  | un t l res h0 h1 ih =>
    intro x r e
    rcases res with _ | ⟨y, r'⟩
    · cases e
    · cases e
      have := ih y r' rfl
      simp only [stM, exLang, Ex.nodes, List.length_cons] at *
      omega
  | par t t' l r e h0 h1 h2 h3 ih =>
    intro x r2 he
    cases he
    have := ih e (t' :: r) rfl
    simp only [stM, List.length_cons] at *
    omega
  | parN t l res h0 h1 h2 h3 ih => intro x r e; cases e
  | atom t l h0 h1 =>
    intro x r e
    have he : (tatom t).map (fun e => (e, l)) = some (x, r) := e
    rcases ht : tatom t with _ | y
    · rw [ht] at he; cases he
    · rw [ht] at he
      cases he
      have := atom_nodes ht
      simp only [stM, List.length_cons]
      omega
/-- The symbols are short where the tokens are. -/
def SymsOk (x : Ex) : Prop := ∀ y ∈ x.syms, y.size ≤ 1000000
def stS : St Tok Ex → Prop | .U l => Small l | .B _ l => Small l | .L _ a l => SymsOk a ∧ Small l
theorem Small.cons {t : Tok} {l : List Tok} (h : Small (t :: l)) : t.text.size ≤ 1000000 ∧ Small l := ⟨h t List.mem_cons_self, h.tail⟩
theorem atom_syms {t : Tok} {e : Ex} (hs : t.text.size ≤ 1000000) (h : tatom t = some e) : SymsOk e := by
  unfold tatom at h
  repeat' split at h
  all_goals (first | cases h | skip)
  all_goals (intro y hy; simp [Ex.syms] at hy; try (subst hy; exact hs))
theorem P.syms {s : St Tok Ex} {res : Option (Ex × List Tok)} (h : P exLang s res) : stS s → ∀ x r, res = some (x, r) → SymsOk x ∧ Small r := by
  induction h with
  | binN lv l h ih => intro _ x r e; cases e
  | bin lv l r a res h1 h2 ih1 ih2 => intro hs x r' e; exact ih2 (ih1 hs a r rfl) x r' e
  | stop lv a r h => intro hs x r' e; cases e; exact hs
  | step lv a b t r r' res h0 h1 h2 h3 ih1 ih2 =>
    intro hs x r2 e
    have a1 := ih1 hs.2.cons.2 b r' rfl
    refine ih2 ⟨fun y hy => ?_, a1.2⟩ x r2 e
    simp only [exLang, Ex.syms, List.mem_append] at hy
    exact hy.elim (hs.1 y) (a1.1 y)
  | stepN lv a t r h0 h1 h2 ih => intro _ x r e; cases e
  | nil => intro _ x r e; cases e
  | un t l res h0 h1 ih =>
    intro hs x r e
    rcases res with _ | ⟨y, r'⟩
    · cases e
    · cases e
      exact ih (Small.cons hs).2 y r' rfl
  | par t t' l r e h0 h1 h2 h3 ih =>
    intro hs x r2 he
    cases he
    have := ih (Small.cons hs).2 e (t' :: r) rfl
    exact ⟨this.1, this.2.cons.2⟩
  | parN t l res h0 h1 h2 h3 ih => intro _ x r e; cases e
  | atom t l h0 h1 =>
    intro hs x r e
    have he : (tatom t).map (fun e => (e, l)) = some (x, r) := e
    rcases ht : tatom t with _ | y
    · rw [ht] at he; cases he
    · rw [ht] at he
      cases he
      exact ⟨atom_syms (Small.cons hs).1 ht, (Small.cons hs).2⟩
end Go.Proofs.YtnjpfhihbjihbaaGreatDoor
