/- Joined texts: Parse2, Upper, Toks. -/
import Derived.Test.YtpkbonfbehhbdaaGreatDoorE01
import Derived.Laws.IdiomStrings
/- The parser that splits at the last operator of the lowest level, and that it agrees with the parser by levels. No program in sight. -/
namespace Go.Proofs.YtpkbonfbehhbdaaGreatDoor
open Go.RowKit Go.Sort

section
variable {τ ν : Type} (S : Lang τ ν)

def dl (t : τ) : Int := (if S.isL t then 1 else 0) - (if S.isR t then 1 else 0)

/-- The look for the last operator of the lowest level outside of brackets: whether the token before can end an operand; the depth; the index; the best so far; its level. -/
def scan (pe : Bool) (d : Int) (i : Nat) (best : Option Nat) (lev : Nat) : List τ → Option Nat
  | [] => best
  | t :: l => if pe = true ∧ d + dl S t = 0 ∧ S.lvl t ≠ 0 ∧ S.lvl t ≤ lev then scan (S.ends t) (d + dl S t) (i + 1) (some i) (S.lvl t) l else scan (S.ends t) (d + dl S t) (i + 1) best lev l
def place (l : List τ) : Option Nat := scan S false 0 0 none 99 l

/-- Whether the first bracket is closed by the last token. -/
def cls (d : Int) : List τ → Bool
  | [] => decide (d = 0)
  | [t] => decide (d + dl S t = 0)
  | t :: t' :: l => if d + dl S t ≤ 0 then false else cls (d + dl S t) (t' :: l)

inductive T : List τ → Option ν → Prop
  | nil : T [] none
  | split (l l' : List τ) (t : τ) (ra rb : Option ν) : place S (l ++ t :: l') = some l.length → T l ra → T l' rb → T (l ++ t :: l') (match ra, rb with | some a, some b => some (S.bin t a b) | _, _ => none)
  | un (t : τ) (l : List τ) (ra : Option ν) : place S (t :: l) = none → S.isU t = true → T l ra → T (t :: l) (ra.map (S.un t))
  | par (t t' : τ) (l : List τ) (ra : Option ν) : place S (t :: (l ++ [t'])) = none → S.isU t = false → S.isL t = true → l ≠ [] → cls S 0 (t :: (l ++ [t'])) = true → T l ra → T (t :: (l ++ [t'])) ra
  | one (t : τ) : place S [t] = none → S.isU t = false → T [t] (S.atom t)
  | many (t t' : τ) (l : List τ) : place S (t :: t' :: l) = none → S.isU t = false → (S.isL t = true → l ≠ [] → cls S 0 (t :: t' :: l) = false) → T (t :: t' :: l) none

theorem dl_op {t : τ} (h : S.lvl t ≠ 0) : dl S t = 0 := by
  obtain ⟨_, _, h1, h2⟩ := S.lvl_op t h
  simp [dl, h1, h2]
theorem dl_L {t : τ} (h : S.isL t = true) : dl S t = 1 := by
  obtain ⟨_, _, h2⟩ := S.l_not t h
  simp [dl, h, h2]
theorem L_of_R {t : τ} (h : S.isR t = true) : S.isL t = false := by
  cases hl : S.isL t with
  | false => rfl
  | true => rw [(S.l_not t hl).2.2] at h; cases h
theorem dl_R {t : τ} (h : S.isR t = true) : dl S t = -1 := by simp [dl, h, L_of_R S h]
theorem dl_U {t : τ} (h : S.isU t = true) : dl S t = 0 := by
  obtain ⟨_, _, h1, h2⟩ := S.u_ends t h
  simp [dl, h1, h2]
theorem atom_not {t : τ} {e : ν} (h : S.atom t = some e) : S.lvl t = 0 ∧ S.isU t = false ∧ S.isL t = false ∧ S.isR t = false := by
  refine ⟨?_, ?_, ?_, ?_⟩
  · rcases Nat.eq_zero_or_pos (S.lvl t) with h0 | h0
    · exact h0
    · rw [(S.lvl_op t (by omega)).2.1] at h; cases h
  · cases hu : S.isU t with
    | false => rfl
    | true => rw [(S.u_ends t hu).2.1] at h; cases h
  · cases hu : S.isL t with
    | false => rfl
    | true => rw [(S.l_not t hu).2.1] at h; cases h
  · cases hu : S.isR t with
    | false => rfl
    | true => rw [(S.r_ends t hu).2] at h; cases h
theorem dl_atom {t : τ} {e : ν} (h : S.atom t = some e) : dl S t = 0 := by
  obtain ⟨_, _, h1, h2⟩ := atom_not S h
  simp [dl, h1, h2]
theorem lvl_R {t : τ} (h : S.isR t = true) : S.lvl t = 0 := by
  rcases Nat.eq_zero_or_pos (S.lvl t) with h0 | h0
  · exact h0
  · rw [(S.lvl_op t (by omega)).2.2.2] at h; cases h

/-- Inside brackets nothing is found. -/
theorem G.scan_in {k : Option Nat} {l : List τ} {e : ν} (h : G S k l e) : ∀ (d : Int), 0 < d → ∀ i best lev r, scan S false d i best lev (l ++ r) = scan S true d (i + l.length) best lev r := by
  induction h with
  | atom t e ha =>
    intro d hd i best lev r
    simp [scan, dl_atom S ha, S.a_ends t e ha]
  | par t t' l e h1 h2 hg ih =>
    intro d hd i best lev r
    have := ih (d + 1) (by omega) (i + 1) best lev (t' :: r)
    simp only [List.cons_append, List.append_assoc, List.nil_append, scan, dl_L S h1, (S.l_not t h1).1, List.length_cons, List.length_append, List.length_nil]
    rw [if_neg (by simp), this]
    simp only [scan, dl_R S h2, (S.r_ends t' h2).1]
    rw [if_neg (by rintro ⟨_, _, h, _⟩; exact h (lvl_R S h2)), show d + 1 + -1 = d by omega, show i + 1 + l.length + 1 = i + (l.length + (0 + 1) + 1) by omega]
  | un t l e h0 hg ih =>
    intro d hd i best lev r
    simp only [List.cons_append, scan, dl_U S h0, (S.u_ends t h0).1, List.length_cons]
    rw [if_neg (by simp), show d + 0 = d by omega, ih d hd, show i + 1 + l.length = i + (l.length + 1) by omega]
  | one k l e hg ih => exact ih
  | bin k t l l' a b h0 hk hg1 hg2 ih1 ih2 =>
    intro d hd i best lev r
    rw [List.append_assoc, ih1 d hd, List.cons_append]
    simp only [scan, dl_op S h0, (S.lvl_op t h0).1]
    rw [if_neg (by omega), show d + 0 = d by omega, ih2 d hd]
    congr 1
    simp; omega

/-- Outside of brackets nothing below the level is found. -/
theorem G.scan_low {k : Option Nat} {l : List τ} {e : ν} (h : G S k l e) : ∀ i best lev r, (∀ m, k = some m → lev < m) → scan S false 0 i best lev (l ++ r) = scan S true 0 (i + l.length) best lev r := by
  induction h with
  | atom t e ha =>
    intro i best lev r _
    simp [scan, dl_atom S ha, S.a_ends t e ha]
  | par t t' l e h1 h2 hg ih =>
    intro i best lev r _
    have := hg.scan_in S 1 (by omega) (i + 1) best lev (t' :: r)
    simp only [List.cons_append, List.append_assoc, List.nil_append, scan, dl_L S h1, (S.l_not t h1).1, List.length_cons, List.length_append, List.length_nil]
    rw [if_neg (by simp), show (0 : Int) + 1 = 1 by omega, this]
    simp only [scan, dl_R S h2, (S.r_ends t' h2).1]
    rw [if_neg (by rintro ⟨_, _, h, _⟩; exact h (lvl_R S h2)), show (1 : Int) + -1 = 0 by omega, show i + 1 + l.length + 1 = i + (l.length + (0 + 1) + 1) by omega]
  | un t l e h0 hg ih =>
    intro i best lev r _
    simp only [List.cons_append, scan, dl_U S h0, (S.u_ends t h0).1, List.length_cons]
    rw [if_neg (by simp), show (0 : Int) + 0 = 0 by omega, ih _ _ _ _ (by intro m hm; cases hm), show i + 1 + l.length = i + (l.length + 1) by omega]
  | one k l e hg ih => intro i best lev r _; exact ih _ _ _ _ (by intro m hm; cases hm)
  | bin k t l l' a b h0 hk hg1 hg2 ih1 ih2 =>
    intro i best lev r hlev
    have hk2 := hlev k rfl
    rw [List.append_assoc, ih1 _ _ _ _ (by intro m hm; cases hm; omega), List.cons_append]
    simp only [scan, dl_op S h0, (S.lvl_op t h0).1]
    rw [if_neg (by omega), show (0 : Int) + 0 = 0 by omega, ih2 _ _ _ _ (by intro m hm; cases hm; omega)]
    congr 1
    simp; omega

/-- Whatever is found has at least the level of the grammar. -/
theorem G.scan_any {k : Option Nat} {l : List τ} {e : ν} (h : G S k l e) : ∀ i best lev r m, k = some m → m ≤ lev → ∃ best' lev', m ≤ lev' ∧ scan S false 0 i best lev (l ++ r) = scan S true 0 (i + l.length) best' lev' r := by
  induction h with
  | atom t e ha => intro i best lev r m hm; cases hm
  | par t t' l e h1 h2 hg ih => intro i best lev r m hm; cases hm
  | un t l e h0 hg ih => intro i best lev r m hm; cases hm
  | one k l e hg ih =>
    intro i best lev r m hm hml
    exact ⟨best, lev, hml, hg.scan_low S i best lev r (by intro m' hm'; cases hm')⟩
  | bin k t l l' a b h0 hk hg1 hg2 ih1 ih2 =>
    intro i best lev r m hm hml
    cases hm
    by_cases hle : S.lvl t ≤ lev
    · obtain ⟨b1, v1, hv1, e1⟩ := ih1 i best lev (t :: (l' ++ r)) _ rfl hle
      refine ⟨some (i + l.length), S.lvl t, hk, ?_⟩
      rw [List.append_assoc, List.cons_append, e1]
      simp only [scan, dl_op S h0, (S.lvl_op t h0).1]
      rw [if_pos ⟨by trivial, by omega, h0, hv1⟩, show (0 : Int) + 0 = 0 by omega, hg2.scan_low S _ _ _ _ (by intro m' hm'; cases hm'; omega)]
      congr 1
      simp; omega
    · refine ⟨best, lev, hml, ?_⟩
      have := hg1.scan_low S i best lev (t :: (l' ++ r)) (by intro m' hm'; cases hm'; omega)
      rw [List.append_assoc, List.cons_append, this]
      simp only [scan, dl_op S h0, (S.lvl_op t h0).1]
      rw [if_neg (by omega), show (0 : Int) + 0 = 0 by omega, hg2.scan_low S _ _ _ _ (by intro m' hm'; cases hm'; omega)]
      congr 1
      simp; omega

theorem place_none {l : List τ} {e : ν} (h : G S none l e) : place S l = none := by
  have := h.scan_low S 0 none 99 [] (by intro m hm; cases hm)
  rw [List.append_nil] at this
  unfold place
  rw [this]; rfl
theorem place_bin {t : τ} {l l' : List τ} {a b : ν} (h0 : S.lvl t ≠ 0) (h1 : G S (some (S.lvl t)) l a) (h2 : G S (some (S.lvl t + 1)) l' b) : place S (l ++ t :: l') = some l.length := by
  have h6 := S.lvl_le t
  obtain ⟨b1, v1, hv1, e1⟩ := h1.scan_any S 0 none 99 (t :: l') _ rfl (by omega)
  have h3 := h2.scan_low S (0 + l.length + 1) (some (0 + l.length)) (S.lvl t) [] (by intro m hm; cases hm; omega)
  rw [List.append_nil] at h3
  unfold place
  rw [e1]
  simp only [scan, dl_op S h0, (S.lvl_op t h0).1]
  rw [if_pos ⟨by trivial, by omega, h0, hv1⟩, show (0 : Int) + 0 = 0 by omega, h3]
  simp [scan]

theorem G.cls_in {k : Option Nat} {l : List τ} {e : ν} (h : G S k l e) : ∀ (d : Int), 0 < d → ∀ t r, cls S d (l ++ t :: r) = cls S d (t :: r) := by
  induction h with
  | atom t e ha =>
    intro d hd t2 r
    simp only [List.cons_append, List.nil_append, cls, dl_atom S ha]
    rw [if_neg (by omega), show d + 0 = d by omega]
  | par t t' l e h1 h2 hg ih =>
    intro d hd t2 r
    have hh := ih (d + 1) (by omega) t' (t2 :: r)
    cases hl : l ++ t' :: t2 :: r with
    | nil => simp at hl
    | cons x y =>
      have e1 : t :: (l ++ [t']) ++ t2 :: r = t :: x :: y := by rw [← hl]; simp
      rw [e1]
      simp only [cls, dl_L S h1]
      rw [if_neg (by omega), ← hl, hh]
      simp only [cls, dl_R S h2]
      rw [if_neg (by omega), show d + 1 + -1 = d by omega]
  | un t l e h0 hg ih =>
    intro d hd t2 r
    cases hl : l ++ t2 :: r with
    | nil => simp at hl
    | cons x y =>
      rw [List.cons_append, hl]
      simp only [cls, dl_U S h0]
      rw [if_neg (by omega), ← hl, show d + 0 = d by omega, ih d hd]
  | one k l e hg ih => exact ih
  | bin k t l l' a b h0 hk hg1 hg2 ih1 ih2 =>
    intro d hd t2 r
    rw [List.append_assoc, List.cons_append, ih1 d hd]
    cases hl : l' ++ t2 :: r with
    | nil => simp at hl
    | cons x y =>
      simp only [cls, dl_op S h0]
      rw [if_neg (by omega), ← hl, show d + 0 = d by omega, ih2 d hd]
theorem cls_par {t t' : τ} {l : List τ} {e : ν} {k : Option Nat} (h1 : S.isL t = true) (h2 : S.isR t' = true) (h : G S k l e) : cls S 0 (t :: (l ++ [t'])) = true := by
  have hh := h.cls_in S 1 (by omega) t' []
  cases hl : l ++ [t'] with
  | nil => simp at hl
  | cons x y =>
    simp only [cls, dl_L S h1]
    rw [if_neg (by omega), show (0 : Int) + 1 = 1 by omega, ← hl, hh]
    simp [cls, dl_R S h2]
theorem G.ne_nil {k : Option Nat} {l : List τ} {e : ν} (h : G S k l e) : l ≠ [] := by
  cases h with
  | atom => simp
  | par => simp
  | un => simp
  | one _ _ _ h => cases h <;> simp
  | bin => simp
theorem U_of_k {l : List τ} {e : ν} {k : Nat} (h : G S (some k) l e) (hp : place S l = none) : G S none l e := by
  cases h with
  | one _ _ _ h => exact h
  | bin _ t l l' a b h0 hk h1 h2 => rw [place_bin S h0 h1 h2] at hp; cases hp

/-- The grammar's expressions are found by the splitting parser. -/
theorem T.complete {l : List τ} {res : Option ν} (h : T S l res) : ∀ e, G S (some 1) l e → res = some e := by
  induction h with
  | nil => intro e hg; exact absurd rfl (hg.ne_nil S)
  | split l l' t ra rb hp h1 h2 ih1 ih2 =>
    intro e hg
    generalize hL : l ++ t :: l' = L at hg hp
    cases hg with
    | one _ _ _ hg => rw [place_none S hg] at hp; cases hp
    | bin _ t2 l2 l2' a b h0 hk g1 g2 =>
      rw [place_bin S h0 g1 g2, Option.some.injEq] at hp
      obtain ⟨e1, e2⟩ := List.append_inj hL hp.symm
      subst e1
      cases e2
      rw [ih1 a (g1.mono S (by omega)), ih2 b (g2.mono S (by omega))]
  | un t l ra hp hu h1 ih =>
    intro e hg
    have hn := U_of_k S hg hp
    cases hn with
    | atom _ _ ha => rw [(atom_not S ha).2.1] at hu; cases hu
    | par _ t' l2 _ g1 g2 g3 => rw [(S.u_ends _ hu).2.2.1] at g1; cases g1
    | un _ _ e' g0 g1 => rw [ih e' (.one _ _ _ g1)]; rfl
  | par t t' l ra hp hu hL hne hc h1 ih =>
    intro e hg
    have hn := U_of_k S hg hp
    generalize hM : t :: (l ++ [t']) = M at hn
    cases hn with
    | atom t2 _ ha => simp at hM
    | par t2 t2' l2 _ g1 g2 g3 =>
      obtain ⟨rfl, e2⟩ := List.cons.inj hM
      obtain ⟨rfl, _⟩ := List.append_inj' e2 rfl
      exact ih e g3
    | un t2 _ e' g0 g1 =>
      obtain ⟨rfl, _⟩ := List.cons.inj hM
      rw [hu] at g0; cases g0
  | one t hp hu =>
    intro e hg
    have hn := U_of_k S hg hp
    generalize hM : [t] = M at hn
    cases hn with
    | atom t2 _ ha => cases hM; exact ha
    | par t2 t2' l2 _ g1 g2 g3 => simp at hM
    | un t2 l2 e' g0 g1 =>
      obtain ⟨rfl, rfl⟩ := List.cons.inj hM
      rw [hu] at g0; cases g0
  | many t t' l hp hu hc =>
    intro e hg
    have hn := U_of_k S hg hp
    generalize hM : t :: t' :: l = M at hn
    cases hn with
    | atom t2 _ ha => simp at hM
    | par t2 t2' l2 _ g1 g2 g3 =>
      obtain ⟨rfl, e2⟩ := List.cons.inj hM
      have := cls_par S g1 g2 g3
      rw [← e2, hc g1 ?_] at this
      · cases this
      · intro hl
        subst hl
        have h3 := g3.ne_nil S
        cases l2 with
        | nil => exact h3 rfl
        | cons x y => simp at e2
    | un t2 l2 e' g0 g1 =>
      obtain ⟨rfl, _⟩ := List.cons.inj hM
      rw [hu] at g0; cases g0

theorem scan_from (pe : Bool) (d : Int) (i : Nat) (best : Option Nat) (lev : Nat) (l : List τ) : scan S pe d i best lev l = best ∨ ∃ j, i ≤ j ∧ scan S pe d i best lev l = some j := by
  induction l generalizing pe d i best lev with
  | nil => exact .inl rfl
  | cons t l ih =>
    simp only [scan]
    split
    · rcases ih (S.ends t) (d + dl S t) (i + 1) (some i) (S.lvl t) with h | ⟨j, hj, h⟩
      · exact .inr ⟨i, Nat.le_refl _, h⟩
      · exact .inr ⟨j, by omega, h⟩
    · rcases ih (S.ends t) (d + dl S t) (i + 1) best lev with h | ⟨j, hj, h⟩
      · exact .inl h
      · exact .inr ⟨j, by omega, h⟩

/-- What the look finds in an expression. -/
theorem G.top {l : List τ} {e : ν} (h : G S (some 1) l e) (i : Nat) (best : Option Nat) (lev : Nat) : ∃ bst lv, (∀ k, k ≤ lv → k ≤ lev → G S (some k) l e) ∧
    ((bst = best ∧ lv = lev ∧ G S (some (lev + 1)) l e) ∨ (∃ j, i ≤ j ∧ j < i + l.length ∧ bst = some j) ∧ lv ≤ lev) ∧ ∀ r, scan S false 0 i best lev (l ++ r) = scan S true 0 (i + l.length) bst lv r := by
  cases h with
  | one _ _ _ h => exact ⟨best, lev, fun k _ _ => .one _ _ _ h, .inl ⟨rfl, rfl, .one _ _ _ h⟩, fun r => h.scan_low S i best lev r (by intro m hm; cases hm)⟩
  | bin _ t x y a b h0 hk h1 h2 =>
    by_cases hle : S.lvl t ≤ lev
    · refine ⟨some (i + x.length), S.lvl t, fun k hk _ => .bin _ t x y a b h0 hk h1 h2, .inr ⟨⟨i + x.length, by omega, by simp, rfl⟩, hle⟩, fun r => ?_⟩
      obtain ⟨b1, v1, hv1, e1⟩ := h1.scan_any S i best lev (t :: (y ++ r)) _ rfl hle
      rw [List.append_assoc, List.cons_append, e1]
      simp only [scan, dl_op S h0, (S.lvl_op t h0).1]
      rw [if_pos ⟨by trivial, by omega, h0, hv1⟩, show (0 : Int) + 0 = 0 by omega, h2.scan_low S _ _ _ _ (by intro m' hm'; cases hm'; omega)]
      congr 1
      simp; omega
    · have hg : G S (some (lev + 1)) (x ++ t :: y) (S.bin t a b) := .bin _ t x y a b h0 (by omega) h1 h2
      exact ⟨best, lev, fun k hk1 hk2 => hg.mono S (by omega), .inl ⟨rfl, rfl, hg⟩, fun r => hg.scan_low S i best lev r (by intro m hm; cases hm; omega)⟩

theorem T.sound {l : List τ} {res : Option ν} (h : T S l res) : ∀ e, res = some e → G S (some 1) l e := by
  induction h with
  | nil => intro e he; cases he
  | split l l' t ra rb hp h1 h2 ih1 ih2 =>
    intro e he
    cases ra with
    | none => cases he
    | some a =>
      cases rb with
      | none => cases he
      | some b =>
        simp only [Option.some.injEq] at he
        subst he
        have g1 := ih1 a rfl
        have g2 := ih2 b rfl
        obtain ⟨bst, lv, hk, hb, hs⟩ := g1.top S 0 none 99
        unfold place at hp
        rw [hs] at hp
        simp only [scan] at hp
        have hbne : bst ≠ some l.length := by
          rcases hb with ⟨hb, _, _⟩ | ⟨⟨j, _, hj, hb⟩, _⟩
          · rw [hb]; simp
          · rw [hb]; simp only [ne_eq, Option.some.injEq]; omega
        have hlv : lv ≤ 99 := by rcases hb with ⟨_, hb, _⟩ | ⟨_, hb⟩ <;> omega
        split at hp
        · rename_i hc
          obtain ⟨_, hd, h0, hle⟩ := hc
          rw [hd, (S.lvl_op t h0).1] at hp
          obtain ⟨bst2, lv2, hk2, hb2, hs2⟩ := g2.top S (0 + l.length + 1) (some (0 + l.length)) (S.lvl t)
          have := hs2 []
          rw [List.append_nil] at this
          rw [this] at hp
          simp only [scan] at hp
          have h6 := S.lvl_le t
          rcases hb2 with ⟨_, _, hg2⟩ | ⟨⟨j, hj, _, hb2⟩, _⟩
          · exact .bin _ t l l' a b h0 (by omega) (hk _ hle (by omega)) hg2
          · rw [hb2, Option.some.injEq] at hp; omega
        · rcases scan_from S (S.ends t) (0 + dl S t) (0 + l.length + 1) bst lv l' with h | ⟨j, hj, h⟩
          · rw [h] at hp; exact absurd hp hbne
          · rw [h, Option.some.injEq] at hp; omega
  | un t l ra hp hu h1 ih =>
    intro e he
    obtain ⟨a, ha, rfl⟩ := Option.map_eq_some_iff.1 he
    have g := ih a ha
    refine .one _ _ _ (.un t l a hu ?_)
    unfold place at hp
    simp only [scan, dl_U S hu, (S.u_ends t hu).1] at hp
    rw [if_neg (by simp), show (0 : Int) + 0 = 0 by omega] at hp
    cases g with
    | one _ _ _ g => exact g
    | bin _ t2 x y a2 b2 h0 hk g1 g2 =>
      obtain ⟨b1, v1, hv1, e1⟩ := g1.scan_any S (0 + 1) none 99 (t2 :: y) _ rfl (by have := S.lvl_le t2; omega)
      have h3 := g2.scan_low S (0 + 1 + x.length + 1) (some (0 + 1 + x.length)) (S.lvl t2) [] (by intro m hm; cases hm; omega)
      rw [List.append_nil] at h3
      rw [e1] at hp
      simp only [scan, dl_op S h0, (S.lvl_op t2 h0).1] at hp
      rw [if_pos ⟨by trivial, by omega, h0, hv1⟩, show (0 : Int) + 0 = 0 by omega, h3] at hp
      simp [scan] at hp
  | par t t' l ra hp hu hL hne hc h1 ih =>
    intro e he
    have g := ih e he
    refine .one _ _ _ (.par t t' l e hL ?_ g)
    have hh := g.cls_in S 1 (by omega) t' []
    cases hl : l ++ [t'] with
    | nil => simp at hl
    | cons x y =>
      rw [hl] at hc
      simp only [cls, dl_L S hL] at hc
      rw [if_neg (by omega), show (0 : Int) + 1 = 1 by omega, ← hl, hh] at hc
      simp only [cls] at hc
      have hc1 : 1 + dl S t' = 0 := of_decide_eq_true hc
      unfold dl at hc1
      cases hr : S.isR t' with
      | true => rfl
      | false =>
        simp only [hr] at hc1
        split at hc1 <;> simp at hc1
  | one t hp hu => intro e he; exact .one _ _ _ (.atom t e he)
  | many t t' l hp hu hc => intro e he; cases he

/-- The two parsers agree. -/
theorem parse_agree {l : List τ} {res : Option (ν × List τ)} {res' : Option ν} (h : P S (.B 1 l) res) (h' : T S l res') (e : ν) : res = some (e, []) ↔ res' = some e :=
  (h.full S e).trans ⟨h'.complete S e, h'.sound S e⟩
end
end Go.Proofs.YtpkbonfbehhbdaaGreatDoor

/- num.Upper: capital letters. -/
namespace Go.Proofs.YtpkbonfbehhbdaaGreatDoor
open Go.RowKit Go.Sort

/-- A byte in capitals. -/
def up (c : UInt8) : UInt8 := if 97 ≤ c.toNat ∧ c.toNat ≤ 122 then c - 32 else c
/-- A string in capitals. -/
def upper (s : ByteArray) : ByteArray := ⟨(s.data.toList.map up).toArray⟩

theorem up_toNat (c : UInt8) : ((up c).toNat : Int) = if 97 ≤ (c.toNat : Int) ∧ (c.toNat : Int) ≤ 122 then (c.toNat : Int) - 97 + 65 else c.toNat := by
  unfold up
  by_cases h : 97 ≤ c.toNat ∧ c.toNat ≤ 122
  · rw [if_pos h, if_pos (by omega)]
    have : (c - 32).toNat = c.toNat - 32 := by
      rw [UInt8.toNat_sub_of_le]; rfl; rw [UInt8.le_iff_toNat_le]; show 32 ≤ c.toNat; omega
    rw [this]; omega
  · rw [if_neg h, if_neg (by omega)]

theorem setCell_alloc_mark (w : World) (C : Array Value) (t : TypeId) (fr : Nat × Nat) (i : Nat) (v : Value) :
    (w.alloc (.cells C t fr)).setCell ⟨w.heap.size, i, none⟩ v = w.alloc (.cells (C.setIfInBounds i v) t fr) := by
  have hm : ∀ (a : Array Obj) (x : Obj) (f : Obj → Obj), (a.push x).modify a.size f = a.push (f x) := by
    intro a x f
    apply Array.ext
    · simp
    · intro i h1 h2
      simp only [Array.getElem_modify, Array.getElem_push]
      by_cases h : a.size = i
      · subst h; simp
      · have hi : i < a.size := by simp at h1; omega
        simp [h, hi]
  show ({ (w.alloc (.cells C t fr)) with heap := (w.heap.push (.cells C t fr)).modify w.heap.size _ } : World) = _
  rw [hm]
  rfl

set_option maxHeartbeats 1000000 in
theorem upper_any (s : ByteArray) (w : World) (hs : s.size ≤ maxLen) :
    Calls Tryz.prog 79 #[.string s] w fun e w' => e = .returned (.string (upper s)) ∧ Below w.heap.size w w' := by
  unfold maxLen at hs
  have hconv := run_bytes_of_string (P := Tryz.prog) w 9 146 5 s Tryz.underlying9 Tryz.underlying146 Tryz.underlying5
  obtain ⟨cap, hcap⟩ : ∃ cap, grownCap w s.size 0 5 = cap := ⟨_, rfl⟩
  obtain ⟨C0, hC0⟩ : ∃ C0, bytesRow s cap = C0 := ⟨_, rfl⟩
  have hat : ∀ j (hj : j < s.size), C0[j]? = some (.int .u8 (s.data[j].toNat : Int)) := fun j hj => by rw [← hC0]; exact bytesRow_at s cap j hj
  have hsz : s.size ≤ C0.size := by rw [← hC0]; simp [bytesRow]
  rw [hcap, hC0] at hconv
  clear hcap hC0
  obtain ⟨m, hm⟩ : ∃ m, C0.size = m := ⟨_, rfl⟩
  rw [hm] at hconv
  have Hm := Lib.hid hm; clear hm
  go_enter Tryz.func79, Tryz.ntmps79
  go_wp2
  go_loopw [4, 5, 10] (fun _ _ i wr => ∃ (k : Nat) (C : Array Value), k ≤ s.size ∧ i = .int .i64 k ∧ wr = (w.alloc (.cells C 5 (m, m + 1))).drew ∧ C.size = m ∧
      (∀ j (hj : j < s.size), C[j]? = some (.int .u8 ((if j < k then up s.data[j] else s.data[j]).toNat : Int))))
    (fun _ _ i _ => s.size - (intOf i).toNat)
  case atStart => exact ⟨0, C0, Nat.zero_le _, rfl, rfl, Hm.out, by simpa using hat⟩
  case round =>
    obtain ⟨k, C, hk, rfl, rfl, hCm, hC⟩ := hrel
    by_cases hlt : k < s.size
    · obtain ⟨c, hc⟩ : ∃ c, (s.data[k].toNat : Int) = c := ⟨_, rfl⟩
      have hupc := up_toNat s.data[k]
      rw [hc] at hupc
      have hc0 : 0 ≤ c := by omega
      have hc1 : c ≤ 255 := by have := s.data[k].toNat_lt; omega
      have hcell : (w.alloc (.cells C 5 (m, m + 1))).cell? ⟨w.heap.size, k, none⟩ = some (.int .u8 c) := by
        rw [World.cell?_alloc_mark, hC k hlt, if_neg (Nat.lt_irrefl k), hc]
      have hfr : (w.alloc (.cells C 5 (m, m + 1))).frozen? ⟨w.heap.size, k, none⟩ = false := by
        rw [World.frozen?_alloc_mark]; have := Hm.out; simp; omega
      have HC := Lib.hid hC; clear hC
      have HCm := Lib.hid hCm; clear hCm
      have Hat := Lib.hid hat; clear hat
      have Hup := Lib.hid hupc; clear hupc
      have Hc := Lib.hid hc; clear hc hconv
      by_cases h1 : 97 ≤ c
      · by_cases h2 : c ≤ 122
        · go_wp2
          go_roundw
          case rel =>
            refine ⟨k + 1, C.setIfInBounds k (.int .u8 (c - 97 + 65)), by omega, by go_num, ?_, by rw [Array.size_setIfInBounds]; exact HCm.out, ?_⟩
            · rw [setCell_alloc_mark]
            · intro j hj
              rw [Array.getElem?_setIfInBounds]
              by_cases hjk : k = j
              · subst hjk
                have := HCm.out
                rw [if_pos rfl, if_pos (by rw [this]; have := Hm.out; omega), if_pos (by omega)]
                have := Hup.out
                rw [if_pos ⟨h1, h2⟩] at this
                rw [this]
              · rw [if_neg hjk, HC.out j hj]
                by_cases hjk2 : j < k
                · rw [if_pos hjk2, if_pos (by omega)]
                · rw [if_neg hjk2, if_neg (by omega)]
          case measure => simp [intOf]; omega
        · go_wp2
          go_roundw
          case rel =>
            refine ⟨k + 1, C, by omega, by go_num, rfl, HCm.out, ?_⟩
            intro j hj
            rw [HC.out j hj]
            by_cases hjk : j = k
            · subst hjk
              have := Hup.out
              rw [if_neg (by omega)] at this
              rw [if_neg (by omega), if_pos (by omega), this]
              rw [Hc.out]
            · by_cases hjk2 : j < k
              · rw [if_pos hjk2, if_pos (by omega)]
              · rw [if_neg hjk2, if_neg (by omega)]
          case measure => simp [intOf]; omega
      · go_wp2
        go_roundw
        case rel =>
          refine ⟨k + 1, C, by omega, by go_num, rfl, HCm.out, ?_⟩
          intro j hj
          rw [HC.out j hj]
          by_cases hjk : j = k
          · subst hjk
            have := Hup.out
            rw [if_neg (by omega)] at this
            rw [if_neg (by omega), if_pos (by omega), this]
            rw [Hc.out]
          · by_cases hjk2 : j < k
            · rw [if_pos hjk2, if_pos (by omega)]
            · rw [if_neg hjk2, if_neg (by omega)]
        case measure => simp [intOf]; omega
    · obtain rfl : k = s.size := by omega
      have hback := run_convert_bytes_back (P := Tryz.prog) (w.alloc (.cells C 5 (m, m + 1))).drew 146 9 5 ⟨w.heap.size, 0, none⟩ cap (s.data.toList.map up) Tryz.underlying146 Tryz.underlying5 Tryz.underlying9 (by
        intro j hj
        have hj' : j < s.size := by simpa using hj
        show (w.alloc (.cells C 5 (m, m + 1))).cell? (Addr.add ⟨w.heap.size, 0, none⟩ j) = _
        rw [show Addr.add ⟨w.heap.size, 0, none⟩ j = ⟨w.heap.size, j, none⟩ from by simp [Addr.add, eq_comm], World.cell?_alloc_mark, hC j hj', if_pos hj']
        simp)
      have hl : (s.data.toList.map up).length = s.size := by simp
      rw [hl] at hback
      have HC := Lib.hid hC; clear hC hat hconv
      go_wp2
      go_ret
      exact ⟨rfl, ((Below.refl _ _).alloc (Nat.le_refl _) _).drew⟩
end Go.Proofs.YtpkbonfbehhbdaaGreatDoor

/- Tokens, expressions, and what the two parsers look at. No program in sight. -/
namespace Go.Proofs.YtpkbonfbehhbdaaGreatDoor
open Go.RowKit Go.Sort

/-- A token: kind (1 word, 2 number, 3 string, 4 sign), text, number, offset. -/
structure Tok where
  kind : Int
  text : ByteArray
  n : Int
  off : Int
/-- An expression. -/
inductive Ex where
  | num (n : Int)
  | sym (s : ByteArray)
  | here
  | un (op : ByteArray) (a : Ex)
  | bin (op : ByteArray) (a b : Ex)

def sMOD : ByteArray := ⟨#[77, 79, 68]⟩
/-- The operator, sign or bracket that a token is, or the empty string. -/
def tnm (t : Tok) : ByteArray := if t.kind = 4 then t.text else if t.kind = 1 ∧ (upper t.text).toList = [77, 79, 68] then sMOD else ⟨#[]⟩
/-- The level of a binary operator, or 0. -/
def lvlL (l : List UInt8) : Nat :=
  if l = [124] then 1 else if l = [94] then 2 else if l = [38] then 3 else if l = [60, 60] ∨ l = [62, 62] then 4 else if l = [43] ∨ l = [45] then 5 else if l = [42] ∨ l = [47] ∨ l = [77, 79, 68] then 6 else 0
def lvlS (s : ByteArray) : Nat := lvlL s.toList
/-- A token that is an operand by itself. -/
def tatom (t : Tok) : Option Ex :=
  if (tnm t).toList = [36] then some .here
  else if (tnm t).toList ≠ [] then none
  else if t.kind = 1 then some (.sym t.text)
  else if t.kind = 2 then some (.num t.n)
  else if t.kind = 3 ∧ t.text.toList.length = 1 then some (.num ((t.text.toList.headD 0).toNat : Int))
  else none
def tU (t : Tok) : Bool := (tnm t).toList == [45] || (tnm t).toList == [43] || (tnm t).toList == [126]
def tL (t : Tok) : Bool := (tnm t).toList == [40]
def tR (t : Tok) : Bool := (tnm t).toList == [41]
def tends (t : Tok) : Bool := (tnm t).toList == [] || (tnm t).toList == [41] || (tnm t).toList == [36]

theorem lvlL_le (l : List UInt8) : lvlL l ≤ 6 := by unfold lvlL; repeat' split
                                                    all_goals omega
theorem lvlL_op (l : List UInt8) (h : lvlL l ≠ 0) : l = [124] ∨ l = [94] ∨ l = [38] ∨ l = [60, 60] ∨ l = [62, 62] ∨ l = [43] ∨ l = [45] ∨ l = [42] ∨ l = [47] ∨ l = [77, 79, 68] := by
  unfold lvlL at h
  repeat' split at h
  all_goals first | (rename_i h1; rcases h1 with h1 | h1 | h1 <;> simp [h1]; done) | (rename_i h1; rcases h1 with h1 | h1 <;> simp [h1]; done) | (rename_i h1; simp [h1]; done) | exact absurd rfl h
theorem tatom_of (t : Tok) (e : Ex) (h : tatom t = some e) : (tnm t).toList = [36] ∨ (tnm t).toList = [] := by
  unfold tatom at h
  split at h
  · left; assumption
  · split at h
    · cases h
    · right; rename_i h2; exact Decidable.of_not_not h2
theorem tatom_none (t : Tok) (h : (tnm t).toList ≠ [36]) (h2 : (tnm t).toList ≠ []) : tatom t = none := by
  unfold tatom; rw [if_neg h, if_pos h2]

/-- What the two parsers look at. -/
def exLang : Lang Tok Ex where
  lvl t := lvlS (tnm t)
  isU := tU
  isL := tL
  isR := tR
  ends := tends
  atom := tatom
  un t a := .un (tnm t) a
  bin t a b := .bin (tnm t) a b
  lvl_le t := lvlL_le _
  lvl_op t h := by
    have := lvlL_op _ h
    refine ⟨?_, tatom_none t ?_ ?_, ?_, ?_⟩ <;> rcases this with h | h | h | h | h | h | h | h | h | h <;> simp [tends, tL, tR, h]
  u_ends t h := by
    have : (tnm t).toList = [45] ∨ (tnm t).toList = [43] ∨ (tnm t).toList = [126] := by simpa [tU, or_assoc] using h
    refine ⟨?_, tatom_none t ?_ ?_, ?_, ?_⟩ <;> rcases this with h | h | h <;> simp [tends, tL, tR, h]
  l_not t h := by
    have h : (tnm t).toList = [40] := by simpa [tL] using h
    refine ⟨?_, tatom_none t ?_ ?_, ?_⟩ <;> simp [tends, tR, h]
  r_ends t h := by
    have h : (tnm t).toList = [41] := by simpa [tR] using h
    refine ⟨?_, tatom_none t ?_ ?_⟩ <;> simp [tends, h]
  a_ends t e h := by
    rcases tatom_of t e h with h | h <;> simp [tends, h]

/-- The symbols of an expression, as often as they occur. -/
def Ex.syms : Ex → List ByteArray
  | .num _ => []
  | .sym s => [s]
  | .here => []
  | .un _ a => a.syms
  | .bin _ a b => a.syms ++ b.syms
end Go.Proofs.YtpkbonfbehhbdaaGreatDoor
