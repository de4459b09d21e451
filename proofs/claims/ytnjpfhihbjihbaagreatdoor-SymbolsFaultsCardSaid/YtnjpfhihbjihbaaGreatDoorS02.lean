/- Joined texts: Parse, Parse2. -/
import Derived.Test.YtnjpfhihbjihbaaGreatDoorS01
/- Two ways to parse an expression, and that they agree: by levels from the left, and at the last operator of the lowest level. No program in sight. -/
namespace Go.Proofs.YtnjpfhihbjihbaaGreatDoor
open Go.RowKit Go.Sort

/-- What both parsers look at: a token's level as a binary operator (0: none), whether it is a sign before an operand, a bracket, an operand by itself, and whether an operand can end with it. -/
structure Lang (τ ν : Type) where
  lvl : τ → Nat
  isU : τ → Bool
  isL : τ → Bool
  isR : τ → Bool
  ends : τ → Bool
  atom : τ → Option ν
  un : τ → ν → ν
  bin : τ → ν → ν → ν
  lvl_le : ∀ t, lvl t ≤ 6
  lvl_op : ∀ t, lvl t ≠ 0 → ends t = false ∧ atom t = none ∧ isL t = false ∧ isR t = false
  u_ends : ∀ t, isU t = true → ends t = false ∧ atom t = none ∧ isL t = false ∧ isR t = false
  l_not : ∀ t, isL t = true → ends t = false ∧ atom t = none ∧ isR t = false
  r_ends : ∀ t, isR t = true → ends t = true ∧ atom t = none
  a_ends : ∀ t e, atom t = some e → ends t = true

section
variable {τ ν : Type} (S : Lang τ ν)

/-- The grammar: none: an operand with its signs; some k: operands with operators of at least level k between them. -/
inductive G : Option Nat → List τ → ν → Prop
  | atom (t : τ) (e : ν) : S.atom t = some e → G none [t] e
  | par (t t' : τ) (l : List τ) (e : ν) : S.isL t = true → S.isR t' = true → G (some 1) l e → G none (t :: (l ++ [t'])) e
  | un (t : τ) (l : List τ) (e : ν) : S.isU t = true → G none l e → G none (t :: l) (S.un t e)
  | one (k : Nat) (l : List τ) (e : ν) : G none l e → G (some k) l e
  | bin (k : Nat) (t : τ) (l l' : List τ) (a b : ν) : S.lvl t ≠ 0 → k ≤ S.lvl t → G (some (S.lvl t)) l a → G (some (S.lvl t + 1)) l' b → G (some k) (l ++ t :: l') (S.bin t a b)

theorem G.mono {k m : Nat} {l : List τ} {e : ν} (h : G S (some m) l e) (hk : k ≤ m) : G S (some k) l e := by
  cases h with
  | one _ _ _ h => exact .one _ _ _ h
  | bin _ t l l' a b h0 h1 h2 h3 => exact .bin _ t l l' a b h0 (Nat.le_trans hk h1) h2 h3

/-! ### By levels from the left -/
inductive St (τ ν : Type) where
  | B (lv : Nat) (l : List τ)
  | L (lv : Nat) (a : ν) (l : List τ)
  | U (l : List τ)

def Stop (lv : Nat) (r : List τ) : Prop := ∀ t r', r = t :: r' → S.lvl t = 0 ∨ S.lvl t < lv

inductive P : St τ ν → Option (ν × List τ) → Prop
  | binN (lv : Nat) (l : List τ) : P (.U l) none → P (.B lv l) none
  | bin (lv : Nat) (l r : List τ) (a : ν) (res : Option (ν × List τ)) : P (.U l) (some (a, r)) → P (.L lv a r) res → P (.B lv l) res
  | stop (lv : Nat) (a : ν) (r : List τ) : Stop S lv r → P (.L lv a r) (some (a, r))
  | step (lv : Nat) (a b : ν) (t : τ) (r r' : List τ) (res : Option (ν × List τ)) : S.lvl t ≠ 0 → ¬ S.lvl t < lv → P (.B (S.lvl t + 1) r) (some (b, r')) → P (.L lv (S.bin t a b) r') res → P (.L lv a (t :: r)) res
  | stepN (lv : Nat) (a : ν) (t : τ) (r : List τ) : S.lvl t ≠ 0 → ¬ S.lvl t < lv → P (.B (S.lvl t + 1) r) none → P (.L lv a (t :: r)) none
  | nil : P (.U []) none
  | un (t : τ) (l : List τ) (res : Option (ν × List τ)) : S.isU t = true → P (.U l) res → P (.U (t :: l)) (res.map fun x => (S.un t x.1, x.2))
  | par (t t' : τ) (l r : List τ) (e : ν) : S.isU t = false → S.isL t = true → P (.B 1 l) (some (e, t' :: r)) → S.isR t' = true → P (.U (t :: l)) (some (e, r))
  | parN (t : τ) (l : List τ) (res : Option (ν × List τ)) : S.isU t = false → S.isL t = true → P (.B 1 l) res → (∀ e t' r, res = some (e, t' :: r) → S.isR t' = false) → P (.U (t :: l)) none
  | atom (t : τ) (l : List τ) : S.isU t = false → S.isL t = false → P (.U (t :: l)) ((S.atom t).map fun e => (e, l))

theorem P.det {s : St τ ν} {x y : Option (ν × List τ)} (h : P S s x) (h' : P S s y) : x = y := by
  induction h generalizing y with
  | binN lv l h ih =>
    cases h' with
    | binN _ _ h2 => rfl
    | bin _ _ r a _ h2 h3 => exact absurd (ih h2) (by simp)
  | bin lv l r a res h1 h2 ih1 ih2 =>
    cases h' with
    | binN _ _ g2 => exact absurd (ih1 g2) (by simp)
    | bin _ _ r' a' _ g1 g2 =>
      have := ih1 g1
      simp only [Option.some.injEq, Prod.mk.injEq] at this
      obtain ⟨rfl, rfl⟩ := this
      exact ih2 g2
  | stop lv a r hs =>
    cases h' with
    | stop _ _ _ _ => rfl
    | step _ _ b t r0 r' _ g0 g1 _ _ => rcases hs t r0 rfl with h | h <;> contradiction
    | stepN _ _ t r0 g0 g1 _ => rcases hs t r0 rfl with h | h <;> contradiction
  | step lv a b t r r' res h0 h1 h2 h3 ih2 ih3 =>
    cases h' with
    | stop _ _ _ hs => rcases hs t r rfl with h | h <;> contradiction
    | step _ _ b' _ _ r'' _ g0 g1 g2 g3 =>
      have := ih2 g2
      simp only [Option.some.injEq, Prod.mk.injEq] at this
      obtain ⟨rfl, rfl⟩ := this
      exact ih3 g3
    | stepN _ _ _ _ g0 g1 g2 => exact absurd (ih2 g2) (by simp)
  | stepN lv a t r h0 h1 h2 ih2 =>
    cases h' with
    | stop _ _ _ hs => rcases hs t r rfl with h | h <;> contradiction
    | step _ _ b' _ _ r'' _ g0 g1 g2 g3 => exact absurd (ih2 g2) (by simp)
    | stepN _ _ _ _ g0 g1 g2 => rfl
  | nil => cases h'; rfl
  | un t l res h0 h1 ih =>
    cases h' with
    | un _ _ res' g0 g1 => rw [ih g1]
    | par _ t' _ r e g0 g1 g2 g3 => rw [h0] at g0; cases g0
    | parN _ _ res' g0 g1 g2 g3 => rw [h0] at g0; cases g0
    | atom _ _ g0 g1 => rw [h0] at g0; cases g0
  | par t t' l r e h0 h1 h2 h3 ih =>
    cases h' with
    | un _ _ res' g0 g1 => rw [h0] at g0; cases g0
    | par _ t'' _ r' e' g0 g1 g2 g3 =>
      have := ih g2
      simp only [Option.some.injEq, Prod.mk.injEq, List.cons.injEq] at this
      obtain ⟨rfl, rfl, rfl⟩ := this
      rfl
    | parN _ _ res' g0 g1 g2 g3 => rw [g3 e t' r (ih g2).symm] at h3; cases h3
    | atom _ _ g0 g1 => rw [h1] at g1; cases g1
  | parN t l res h0 h1 h2 h3 ih =>
    cases h' with
    | un _ _ res' g0 g1 => rw [h0] at g0; cases g0
    | par _ t'' _ r' e' g0 g1 g2 g3 => rw [h3 e' t'' r' (ih g2)] at g3; cases g3
    | parN _ _ res' g0 g1 g2 g3 => rfl
    | atom _ _ g0 g1 => rw [h1] at g1; cases g1
  | atom t l h0 h1 =>
    cases h' with
    | un _ _ res' g0 g1 => rw [h0] at g0; cases g0
    | par _ t'' _ r' e' g0 g1 g2 g3 => rw [h1] at g1; cases g1
    | parN _ _ res' g0 g1 g2 g3 => rw [h1] at g1; cases g1
    | atom _ _ g0 g1 => rfl

/-- What a state promises. -/
def Sound (s : St τ ν) (res : Option (ν × List τ)) : Prop :=
  match s with
  | .B lv l => ∀ e r, res = some (e, r) → ∃ l1, l = l1 ++ r ∧ G S (some lv) l1 e ∧ Stop S lv r
  | .L lv a r => ∀ e r2, res = some (e, r2) → ∀ l0 m, G S (some m) l0 a → lv ≤ m → (∀ t r', r = t :: r' → S.lvl t ≤ m) → ∃ l1, r = l1 ++ r2 ∧ G S (some lv) (l0 ++ l1) e ∧ Stop S lv r2
  | .U l => ∀ e r, res = some (e, r) → ∃ l1, l = l1 ++ r ∧ G S none l1 e

theorem P.sound {s : St τ ν} {res : Option (ν × List τ)} (h : P S s res) : Sound S s res := by
  induction h with
  | binN lv l h ih => intro e r he; cases he
  | bin lv l r a res h1 h2 ih1 ih2 =>
    intro e r2 he
    obtain ⟨l1, rfl, hg⟩ := ih1 a r rfl
    obtain ⟨l2, rfl, hg2, hs⟩ := ih2 e r2 he l1 (max lv 7) (.one _ _ _ hg) (Nat.le_max_left _ _) (fun t r' _ => Nat.le_trans (S.lvl_le t) (Nat.le_trans (by omega) (Nat.le_max_right lv 7)))
    exact ⟨l1 ++ l2, by rw [List.append_assoc], hg2, hs⟩
  | stop lv a r hs =>
    intro e r2 he l0 m hg hm _
    cases he
    exact ⟨[], rfl, by rw [List.append_nil]; exact hg.mono S hm, hs⟩
  | step lv a b t r r' res h0 h1 h2 h3 ih2 ih3 =>
    intro e r2 he l0 m hg hm hh
    obtain ⟨l1, rfl, hg1, hs1⟩ := ih2 b r' rfl
    obtain ⟨l2, rfl, hg2, hs2⟩ := ih3 e r2 he (l0 ++ t :: l1) (S.lvl t) (.bin _ t l0 l1 a b h0 (Nat.le_refl _) (hg.mono S (hh t _ rfl)) hg1) (by omega) (fun t' r'' hr => by
      rcases hs1 t' r'' hr with h | h <;> omega)
    exact ⟨t :: (l1 ++ l2), by simp, by simpa using hg2, hs2⟩
  | stepN lv a t r h0 h1 h2 ih2 => intro e r2 he; cases he
  | nil => intro e r he; cases he
  | un t l res h0 h1 ih =>
    intro e r he
    obtain ⟨⟨e', r'⟩, hx, hy⟩ := Option.map_eq_some_iff.1 he
    simp only [Prod.mk.injEq] at hy
    obtain ⟨rfl, rfl⟩ := hy
    obtain ⟨l1, rfl, hg⟩ := ih e' r' hx
    exact ⟨t :: l1, rfl, .un t l1 e' h0 hg⟩
  | par t t' l r e h0 h1 h2 h3 ih =>
    intro e' r' he
    simp only [Option.some.injEq, Prod.mk.injEq] at he
    obtain ⟨rfl, rfl⟩ := he
    obtain ⟨l1, rfl, hg, _⟩ := ih e (t' :: r) rfl
    exact ⟨t :: (l1 ++ [t']), by simp, .par t t' l1 e h1 h3 hg⟩
  | parN t l res h0 h1 h2 h3 ih => intro e r he; cases he
  | atom t l h0 h1 =>
    intro e r he
    obtain ⟨e', hx, hy⟩ := Option.map_eq_some_iff.1 he
    simp only [Prod.mk.injEq] at hy
    obtain ⟨rfl, rfl⟩ := hy
    exact ⟨[t], rfl, .atom t e' hx⟩

/-- What the grammar promises of the parser by levels. -/
def Found (k : Option Nat) (l : List τ) (e : ν) : Prop :=
  match k with
  | none => ∀ r, P S (.U (l ++ r)) (some (e, r))
  | some k => ∀ lv r res, lv ≤ k → (∀ t r', r = t :: r' → S.lvl t ≤ k) → P S (.L lv e r) res → P S (.B lv (l ++ r)) res

theorem G.found {k : Option Nat} {l : List τ} {e : ν} (h : G S k l e) : Found S k l e := by
  induction h with
  | atom t e ha =>
    intro r
    have h0 : S.isU t = false := by
      cases hu : S.isU t with
      | false => rfl
      | true => rw [(S.u_ends t hu).2.1] at ha; cases ha
    have h1 : S.isL t = false := by
      cases hu : S.isL t with
      | false => rfl
      | true => rw [(S.l_not t hu).2.1] at ha; cases ha
    have := P.atom (S := S) t r h0 h1
    rw [ha] at this
    exact this
  | par t t' l e h1 h2 hg ih =>
    intro r
    have h0 : S.isU t = false := by
      cases hu : S.isU t with
      | false => rfl
      | true => rw [(S.u_ends t hu).2.2.1] at h1; cases h1
    have hz : S.lvl t' = 0 := by
      rcases Nat.eq_zero_or_pos (S.lvl t') with h | h
      · exact h
      · rw [(S.lvl_op t' (by omega)).2.2.2] at h2; cases h2
    have hb := ih 1 (t' :: r) (some (e, t' :: r)) (Nat.le_refl _) (fun t2 r2 hr => by cases hr; omega) (.stop _ _ _ (fun t2 r2 hr => by cases hr; exact .inl hz))
    have := P.par (S := S) t t' (l ++ t' :: r) r e h0 h1 hb h2
    simpa using this
  | un t l e h0 hg ih =>
    intro r
    exact P.un (S := S) t (l ++ r) _ h0 (ih r)
  | one k l e hg ih =>
    intro lv r res _ _ hL
    exact .bin lv (l ++ r) r e res (ih r) hL
  | bin k t l l' a b h0 hk hg1 hg2 ih1 ih2 =>
    intro lv r res hlv hh hL
    rw [List.append_assoc]
    refine ih1 lv _ res (by omega) (fun t2 r2 hr => by cases hr; exact Nat.le_refl _) ?_
    refine .step lv a b t (l' ++ r) r res h0 (by omega) ?_ hL
    refine ih2 _ r _ (Nat.le_refl _) (fun t2 r2 hr => by have := hh t2 r2 hr; omega) (.stop _ _ _ (fun t2 r2 hr => ?_))
    have := hh t2 r2 hr
    omega

theorem P.full {l : List τ} {res : Option (ν × List τ)} (h : P S (.B 1 l) res) (e : ν) : res = some (e, []) ↔ G S (some 1) l e := by
  constructor
  · intro he
    obtain ⟨l1, hl, hg, _⟩ := h.sound S e [] he
    rw [List.append_nil] at hl
    rw [hl]; exact hg
  · intro hg
    have := hg.found S 1 [] (some (e, [])) (Nat.le_refl _) (fun t r' hr => by cases hr) (.stop _ _ _ (fun t r' hr => by cases hr))
    rw [List.append_nil] at this
    exact h.det S this
end
end Go.Proofs.YtnjpfhihbjihbaaGreatDoor

/- The parser that splits at the last operator of the lowest level, and that it agrees with the parser by levels. No program in sight. -/
namespace Go.Proofs.YtnjpfhihbjihbaaGreatDoor
open Go.RowKit Go.Sort

section
variable {τ ν : Type} (S : Lang τ ν)

def dl (t : τ) : Int := (if S.isL t then 1 else 0) - (if S.isR t then 1 else 0)

/-- The look for the last operator of the lowest level outside of brackets: whether the token before can end an operand; the depth; the index; the best so far; its level. -/
def scan (pe : Bool) (d : Int) (i : Nat) (best : Option Nat) (lev : Nat) : List τ → Option Nat
  | [] => best
  | t :: l => if pe = true ∧ d + dl S t = 0 ∧ S.lvl t ≠ 0 ∧ S.lvl t ≤ lev then scan (S.ends t) (d + dl S t) (i + 1) (some i) (S.lvl t) l else scan (S.ends t) (d + dl S t) (i + 1) best lev l
def place (l : List τ) : Option Nat := scan S false 0 0 none 99 l

/-- Whether the first bracket is closed by the last token. -/
def cls (d : Int) : List τ → Bool
  | [] => decide (d = 0)
  | [t] => decide (d + dl S t = 0)
  | t :: t' :: l => if d + dl S t ≤ 0 then false else cls (d + dl S t) (t' :: l)

inductive T : List τ → Option ν → Prop
  | nil : T [] none
  | split (l l' : List τ) (t : τ) (ra rb : Option ν) : place S (l ++ t :: l') = some l.length → T l ra → T l' rb → T (l ++ t :: l') (match ra, rb with | some a, some b => some (S.bin t a b) | _, _ => none)
  | un (t : τ) (l : List τ) (ra : Option ν) : place S (t :: l) = none → S.isU t = true → T l ra → T (t :: l) (ra.map (S.un t))
  | par (t t' : τ) (l : List τ) (ra : Option ν) : place S (t :: (l ++ [t'])) = none → S.isU t = false → S.isL t = true → l ≠ [] → cls S 0 (t :: (l ++ [t'])) = true → T l ra → T (t :: (l ++ [t'])) ra
  | one (t : τ) : place S [t] = none → S.isU t = false → T [t] (S.atom t)
  | many (t t' : τ) (l : List τ) : place S (t :: t' :: l) = none → S.isU t = false → (S.isL t = true → l ≠ [] → cls S 0 (t :: t' :: l) = false) → T (t :: t' :: l) none

theorem dl_op {t : τ} (h : S.lvl t ≠ 0) : dl S t = 0 := by
  obtain ⟨_, _, h1, h2⟩ := S.lvl_op t h
  simp [dl, h1, h2]
theorem dl_L {t : τ} (h : S.isL t = true) : dl S t = 1 := by
  obtain ⟨_, _, h2⟩ := S.l_not t h
  simp [dl, h, h2]
theorem L_of_R {t : τ} (h : S.isR t = true) : S.isL t = false := by
  cases hl : S.isL t with
  | false => rfl
  | true => rw [(S.l_not t hl).2.2] at h; cases h
theorem dl_R {t : τ} (h : S.isR t = true) : dl S t = -1 := by simp [dl, h, L_of_R S h]
theorem dl_U {t : τ} (h : S.isU t = true) : dl S t = 0 := by
  obtain ⟨_, _, h1, h2⟩ := S.u_ends t h
  simp [dl, h1, h2]
theorem atom_not {t : τ} {e : ν} (h : S.atom t = some e) : S.lvl t = 0 ∧ S.isU t = false ∧ S.isL t = false ∧ S.isR t = false := by
  refine ⟨?_, ?_, ?_, ?_⟩
  · rcases Nat.eq_zero_or_pos (S.lvl t) with h0 | h0
    · exact h0
    · rw [(S.lvl_op t (by omega)).2.1] at h; cases h
  · cases hu : S.isU t with
    | false => rfl
    | true => rw [(S.u_ends t hu).2.1] at h; cases h
  · cases hu : S.isL t with
    | false => rfl
    | true => rw [(S.l_not t hu).2.1] at h; cases h
  · cases hu : S.isR t with
    | false => rfl
    | true => rw [(S.r_ends t hu).2] at h; cases h
theorem dl_atom {t : τ} {e : ν} (h : S.atom t = some e) : dl S t = 0 := by
  obtain ⟨_, _, h1, h2⟩ := atom_not S h
  simp [dl, h1, h2]
theorem lvl_R {t : τ} (h : S.isR t = true) : S.lvl t = 0 := by
  rcases Nat.eq_zero_or_pos (S.lvl t) with h0 | h0
  · exact h0
  · rw [(S.lvl_op t (by omega)).2.2.2] at h; cases h

/-- Inside brackets nothing is found. -/
theorem G.scan_in {k : Option Nat} {l : List τ} {e : ν} (h : G S k l e) : ∀ (d : Int), 0 < d → ∀ i best lev r, scan S false d i best lev (l ++ r) = scan S true d (i + l.length) best lev r := by
  induction h with
  | atom t e ha =>
    intro d hd i best lev r
    simp [scan, dl_atom S ha, S.a_ends t e ha]
  | par t t' l e h1 h2 hg ih =>
    intro d hd i best lev r
    have := ih (d + 1) (by omega) (i + 1) best lev (t' :: r)
    simp only [List.cons_append, List.append_assoc, List.nil_append, scan, dl_L S h1, (S.l_not t h1).1, List.length_cons, List.length_append, List.length_nil]
    rw [if_neg (by simp), this]
    simp only [scan, dl_R S h2, (S.r_ends t' h2).1]
    rw [if_neg (by rintro ⟨_, _, h, _⟩; exact h (lvl_R S h2)), show d + 1 + -1 = d by omega, show i + 1 + l.length + 1 = i + (l.length + (0 + 1) + 1) by omega]
  | un t l e h0 hg ih =>
    intro d hd i best lev r
    simp only [List.cons_append, scan, dl_U S h0, (S.u_ends t h0).1, List.length_cons]
    rw [if_neg (by simp), show d + 0 = d by omega, ih d hd, show i + 1 + l.length = i + (l.length + 1) by omega]
  | one k l e hg ih => exact ih
  | bin k t l l' a b h0 hk hg1 hg2 ih1 ih2 =>
    intro d hd i best lev r
    rw [List.append_assoc, ih1 d hd, List.cons_append]
    simp only [scan, dl_op S h0, (S.lvl_op t h0).1]
    rw [if_neg (by omega), show d + 0 = d by omega, ih2 d hd]
    congr 1
    simp; omega

/-- Outside of brackets nothing below the level is found. -/
theorem G.scan_low {k : Option Nat} {l : List τ} {e : ν} (h : G S k l e) : ∀ i best lev r, (∀ m, k = some m → lev < m) → scan S false 0 i best lev (l ++ r) = scan S true 0 (i + l.length) best lev r := by
  induction h with
  | atom t e ha =>
    intro i best lev r _
    simp [scan, dl_atom S ha, S.a_ends t e ha]
  | par t t' l e h1 h2 hg ih =>
    intro i best lev r _
    have := hg.scan_in S 1 (by omega) (i + 1) best lev (t' :: r)
    simp only [List.cons_append, List.append_assoc, List.nil_append, scan, dl_L S h1, (S.l_not t h1).1, List.length_cons, List.length_append, List.length_nil]
    rw [if_neg (by simp), show (0 : Int) + 1 = 1 by omega, this]
    simp only [scan, dl_R S h2, (S.r_ends t' h2).1]
    rw [if_neg (by rintro ⟨_, _, h, _⟩; exact h (lvl_R S h2)), show (1 : Int) + -1 = 0 by omega, show i + 1 + l.length + 1 = i + (l.length + (0 + 1) + 1) by omega]
  | un t l e h0 hg ih =>
    intro i best lev r _
    simp only [List.cons_append, scan, dl_U S h0, (S.u_ends t h0).1, List.length_cons]
    rw [if_neg (by simp), show (0 : Int) + 0 = 0 by omega, ih _ _ _ _ (by intro m hm; cases hm), show i + 1 + l.length = i + (l.length + 1) by omega]
  | one k l e hg ih => intro i best lev r _; exact ih _ _ _ _ (by intro m hm; cases hm)
  | bin k t l l' a b h0 hk hg1 hg2 ih1 ih2 =>
    intro i best lev r hlev
    have hk2 := hlev k rfl
    rw [List.append_assoc, ih1 _ _ _ _ (by intro m hm; cases hm; omega), List.cons_append]
    simp only [scan, dl_op S h0, (S.lvl_op t h0).1]
    rw [if_neg (by omega), show (0 : Int) + 0 = 0 by omega, ih2 _ _ _ _ (by intro m hm; cases hm; omega)]
    congr 1
    simp; omega

/-- Whatever is found has at least the level of the grammar. -/
theorem G.scan_any {k : Option Nat} {l : List τ} {e : ν} (h : G S k l e) : ∀ i best lev r m, k = some m → m ≤ lev → ∃ best' lev', m ≤ lev' ∧ scan S false 0 i best lev (l ++ r) = scan S true 0 (i + l.length) best' lev' r := by
  induction h with
  | atom t e ha => intro i best lev r m hm; cases hm
  | par t t' l e h1 h2 hg ih => intro i best lev r m hm; cases hm
  | un t l e h0 hg ih => intro i best lev r m hm; cases hm
  | one k l e hg ih =>
    intro i best lev r m hm hml
    exact ⟨best, lev, hml, hg.scan_low S i best lev r (by intro m' hm'; cases hm')⟩
  | bin k t l l' a b h0 hk hg1 hg2 ih1 ih2 =>
    intro i best lev r m hm hml
    cases hm
    by_cases hle : S.lvl t ≤ lev
    · obtain ⟨b1, v1, hv1, e1⟩ := ih1 i best lev (t :: (l' ++ r)) _ rfl hle
      refine ⟨some (i + l.length), S.lvl t, hk, ?_⟩
      rw [List.append_assoc, List.cons_append, e1]
      simp only [scan, dl_op S h0, (S.lvl_op t h0).1]
      rw [if_pos ⟨by trivial, by omega, h0, hv1⟩, show (0 : Int) + 0 = 0 by omega, hg2.scan_low S _ _ _ _ (by intro m' hm'; cases hm'; omega)]
      congr 1
      simp; omega
    · refine ⟨best, lev, hml, ?_⟩
      have := hg1.scan_low S i best lev (t :: (l' ++ r)) (by intro m' hm'; cases hm'; omega)
      rw [List.append_assoc, List.cons_append, this]
      simp only [scan, dl_op S h0, (S.lvl_op t h0).1]
      rw [if_neg (by omega), show (0 : Int) + 0 = 0 by omega, hg2.scan_low S _ _ _ _ (by intro m' hm'; cases hm'; omega)]
      congr 1
      simp; omega

theorem place_none {l : List τ} {e : ν} (h : G S none l e) : place S l = none := by
  have := h.scan_low S 0 none 99 [] (by intro m hm; cases hm)
  rw [List.append_nil] at this
  unfold place
  rw [this]; rfl
theorem place_bin {t : τ} {l l' : List τ} {a b : ν} (h0 : S.lvl t ≠ 0) (h1 : G S (some (S.lvl t)) l a) (h2 : G S (some (S.lvl t + 1)) l' b) : place S (l ++ t :: l') = some l.length := by
  have h6 := S.lvl_le t
  obtain ⟨b1, v1, hv1, e1⟩ := h1.scan_any S 0 none 99 (t :: l') _ rfl (by omega)
  have h3 := h2.scan_low S (0 + l.length + 1) (some (0 + l.length)) (S.lvl t) [] (by intro m hm; cases hm; omega)
  rw [List.append_nil] at h3
  unfold place
  rw [e1]
  simp only [scan, dl_op S h0, (S.lvl_op t h0).1]
  rw [if_pos ⟨by trivial, by omega, h0, hv1⟩, show (0 : Int) + 0 = 0 by omega, h3]
  simp [scan]

theorem G.cls_in {k : Option Nat} {l : List τ} {e : ν} (h : G S k l e) : ∀ (d : Int), 0 < d → ∀ t r, cls S d (l ++ t :: r) = cls S d (t :: r) := by
  induction h with
  | atom t e ha =>
    intro d hd t2 r
    simp only [List.cons_append, List.nil_append, cls, dl_atom S ha]
    rw [if_neg (by omega), show d + 0 = d by omega]
  | par t t' l e h1 h2 hg ih =>
    intro d hd t2 r
    have hh := ih (d + 1) (by omega) t' (t2 :: r)
    cases hl : l ++ t' :: t2 :: r with
    | nil => simp at hl
    | cons x y =>
      have e1 : t :: (l ++ [t']) ++ t2 :: r = t :: x :: y := by rw [← hl]; simp
      rw [e1]
      simp only [cls, dl_L S h1]
      rw [if_neg (by omega), ← hl, hh]
      simp only [cls, dl_R S h2]
      rw [if_neg (by omega), show d + 1 + -1 = d by omega]
  | un t l e h0 hg ih =>
    intro d hd t2 r
    cases hl : l ++ t2 :: r with
    | nil => simp at hl
    | cons x y =>
      rw [List.cons_append, hl]
      simp only [cls, dl_U S h0]
      rw [if_neg (by omega), ← hl, show d + 0 = d by omega, ih d hd]
  | one k l e hg ih => exact ih
  | bin k t l l' a b h0 hk hg1 hg2 ih1 ih2 =>
    intro d hd t2 r
    rw [List.append_assoc, List.cons_append, ih1 d hd]
    cases hl : l' ++ t2 :: r with
    | nil => simp at hl
    | cons x y =>
      simp only [cls, dl_op S h0]
      rw [if_neg (by omega), ← hl, show d + 0 = d by omega, ih2 d hd]
theorem cls_par {t t' : τ} {l : List τ} {e : ν} {k : Option Nat} (h1 : S.isL t = true) (h2 : S.isR t' = true) (h : G S k l e) : cls S 0 (t :: (l ++ [t'])) = true := by
  have hh := h.cls_in S 1 (by omega) t' []
  cases hl : l ++ [t'] with
  | nil => simp at hl
  | cons x y =>
    simp only [cls, dl_L S h1]
    rw [if_neg (by omega), show (0 : Int) + 1 = 1 by omega, ← hl, hh]
    simp [cls, dl_R S h2]
theorem G.ne_nil {k : Option Nat} {l : List τ} {e : ν} (h : G S k l e) : l ≠ [] := by
  cases h with
  | atom => simp
  | par => simp
  | un => simp
  | one _ _ _ h => cases h <;> simp
  | bin => simp
theorem U_of_k {l : List τ} {e : ν} {k : Nat} (h : G S (some k) l e) (hp : place S l = none) : G S none l e := by
  cases h with
  | one _ _ _ h => exact h
  | bin _ t l l' a b h0 hk h1 h2 => rw [place_bin S h0 h1 h2] at hp; cases hp

/-- The grammar's expressions are found by the splitting parser. -/
theorem T.complete {l : List τ} {res : Option ν} (h : T S l res) : ∀ e, G S (some 1) l e → res = some e := by
  induction h with
  | nil => intro e hg; exact absurd rfl (hg.ne_nil S)
  | split l l' t ra rb hp h1 h2 ih1 ih2 =>
    intro e hg
    generalize hL : l ++ t :: l' = L at hg hp
    cases hg with
    | one _ _ _ hg => rw [place_none S hg] at hp; cases hp
    | bin _ t2 l2 l2' a b h0 hk g1 g2 =>
      rw [place_bin S h0 g1 g2, Option.some.injEq] at hp
      obtain ⟨e1, e2⟩ := List.append_inj hL hp.symm
      subst e1
      cases e2
      rw [ih1 a (g1.mono S (by omega)), ih2 b (g2.mono S (by omega))]
  | un t l ra hp hu h1 ih =>
    intro e hg
    have hn := U_of_k S hg hp
    cases hn with
    | atom _ _ ha => rw [(atom_not S ha).2.1] at hu; cases hu
    | par _ t' l2 _ g1 g2 g3 => rw [(S.u_ends _ hu).2.2.1] at g1; cases g1
    | un _ _ e' g0 g1 => rw [ih e' (.one _ _ _ g1)]; rfl
  | par t t' l ra hp hu hL hne hc h1 ih =>
    intro e hg
    have hn := U_of_k S hg hp
    generalize hM : t :: (l ++ [t']) = M at hn
    cases hn with
    | atom t2 _ ha => simp at hM
    | par t2 t2' l2 _ g1 g2 g3 =>
      obtain ⟨rfl, e2⟩ := List.cons.inj hM
      obtain ⟨rfl, _⟩ := List.append_inj' e2 rfl
      exact ih e g3
    | un t2 _ e' g0 g1 =>
      obtain ⟨rfl, _⟩ := List.cons.inj hM
      rw [hu] at g0; cases g0
  | one t hp hu =>
    intro e hg
    have hn := U_of_k S hg hp
    generalize hM : [t] = M at hn
    cases hn with
    | atom t2 _ ha => cases hM; exact ha
    | par t2 t2' l2 _ g1 g2 g3 => simp at hM
    | un t2 l2 e' g0 g1 =>
      obtain ⟨rfl, rfl⟩ := List.cons.inj hM
      rw [hu] at g0; cases g0
  | many t t' l hp hu hc =>
    intro e hg
    have hn := U_of_k S hg hp
    generalize hM : t :: t' :: l = M at hn
    cases hn with
    | atom t2 _ ha => simp at hM
    | par t2 t2' l2 _ g1 g2 g3 =>
      obtain ⟨rfl, e2⟩ := List.cons.inj hM
      have := cls_par S g1 g2 g3
      rw [← e2, hc g1 ?_] at this
      · cases this
      · intro hl
        subst hl
        have h3 := g3.ne_nil S
        cases l2 with
        | nil => exact h3 rfl
        | cons x y => simp at e2
    | un t2 l2 e' g0 g1 =>
      obtain ⟨rfl, _⟩ := List.cons.inj hM
      rw [hu] at g0; cases g0

theorem scan_from (pe : Bool) (d : Int) (i : Nat) (best : Option Nat) (lev : Nat) (l : List τ) : scan S pe d i best lev l = best ∨ ∃ j, i ≤ j ∧ scan S pe d i best lev l = some j := by
  induction l generalizing pe d i best lev with
  | nil => exact .inl rfl
  | cons t l ih =>
    simp only [scan]
    split
    · rcases ih (S.ends t) (d + dl S t) (i + 1) (some i) (S.lvl t) with h | ⟨j, hj, h⟩
      · exact .inr ⟨i, Nat.le_refl _, h⟩
      · exact .inr ⟨j, by omega, h⟩
    · rcases ih (S.ends t) (d + dl S t) (i + 1) best lev with h | ⟨j, hj, h⟩
      · exact .inl h
      · exact .inr ⟨j, by omega, h⟩

/-- What the look finds in an expression. -/
theorem G.top {l : List τ} {e : ν} (h : G S (some 1) l e) (i : Nat) (best : Option Nat) (lev : Nat) : ∃ bst lv, (∀ k, k ≤ lv → k ≤ lev → G S (some k) l e) ∧
    ((bst = best ∧ lv = lev ∧ G S (some (lev + 1)) l e) ∨ (∃ j, i ≤ j ∧ j < i + l.length ∧ bst = some j) ∧ lv ≤ lev) ∧ ∀ r, scan S false 0 i best lev (l ++ r) = scan S true 0 (i + l.length) bst lv r := by
  cases h with
  | one _ _ _ h => exact ⟨best, lev, fun k _ _ => .one _ _ _ h, .inl ⟨rfl, rfl, .one _ _ _ h⟩, fun r => h.scan_low S i best lev r (by intro m hm; cases hm)⟩
  | bin _ t x y a b h0 hk h1 h2 =>
    by_cases hle : S.lvl t ≤ lev
    · refine ⟨some (i + x.length), S.lvl t, fun k hk _ => .bin _ t x y a b h0 hk h1 h2, .inr ⟨⟨i + x.length, by omega, by simp, rfl⟩, hle⟩, fun r => ?_⟩
      obtain ⟨b1, v1, hv1, e1⟩ := h1.scan_any S i best lev (t :: (y ++ r)) _ rfl hle
      rw [List.append_assoc, List.cons_append, e1]
      simp only [scan, dl_op S h0, (S.lvl_op t h0).1]
      rw [if_pos ⟨by trivial, by omega, h0, hv1⟩, show (0 : Int) + 0 = 0 by omega, h2.scan_low S _ _ _ _ (by intro m' hm'; cases hm'; omega)]
      congr 1
      simp; omega
    · have hg : G S (some (lev + 1)) (x ++ t :: y) (S.bin t a b) := .bin _ t x y a b h0 (by omega) h1 h2
      exact ⟨best, lev, fun k hk1 hk2 => hg.mono S (by omega), .inl ⟨rfl, rfl, hg⟩, fun r => hg.scan_low S i best lev r (by intro m hm; cases hm; omega)⟩

theorem T.sound {l : List τ} {res : Option ν} (h : T S l res) : ∀ e, res = some e → G S (some 1) l e := by
  induction h with
  | nil => intro e he; cases he
  | split l l' t ra rb hp h1 h2 ih1 ih2 =>
    intro e he
    cases ra with
    | none => cases he
    | some a =>
      cases rb with
      | none => cases he
      | some b =>
        simp only [Option.some.injEq] at he
        subst he
        have g1 := ih1 a rfl
        have g2 := ih2 b rfl
        obtain ⟨bst, lv, hk, hb, hs⟩ := g1.top S 0 none 99
        unfold place at hp
        rw [hs] at hp
        simp only [scan] at hp
        have hbne : bst ≠ some l.length := by
          rcases hb with ⟨hb, _, _⟩ | ⟨⟨j, _, hj, hb⟩, _⟩
          · rw [hb]; simp
          · rw [hb]; simp only [ne_eq, Option.some.injEq]; omega
        have hlv : lv ≤ 99 := by rcases hb with ⟨_, hb, _⟩ | ⟨_, hb⟩ <;> omega
        split at hp
        · rename_i hc
          obtain ⟨_, hd, h0, hle⟩ := hc
          rw [hd, (S.lvl_op t h0).1] at hp
          obtain ⟨bst2, lv2, hk2, hb2, hs2⟩ := g2.top S (0 + l.length + 1) (some (0 + l.length)) (S.lvl t)
          have := hs2 []
          rw [List.append_nil] at this
          rw [this] at hp
          simp only [scan] at hp
          have h6 := S.lvl_le t
          rcases hb2 with ⟨_, _, hg2⟩ | ⟨⟨j, hj, _, hb2⟩, _⟩
          · exact .bin _ t l l' a b h0 (by omega) (hk _ hle (by omega)) hg2
          · rw [hb2, Option.some.injEq] at hp; omega
        · rcases scan_from S (S.ends t) (0 + dl S t) (0 + l.length + 1) bst lv l' with h | ⟨j, hj, h⟩
          · rw [h] at hp; exact absurd hp hbne
          · rw [h, Option.some.injEq] at hp; omega
  | un t l ra hp hu h1 ih =>
    intro e he
    obtain ⟨a, ha, rfl⟩ := Option.map_eq_some_iff.1 he
    have g := ih a ha
    refine .one _ _ _ (.un t l a hu ?_)
    unfold place at hp
    simp only [scan, dl_U S hu, (S.u_ends t hu).1] at hp
    rw [if_neg (by simp), show (0 : Int) + 0 = 0 by omega] at hp
    cases g with
    | one _ _ _ g => exact g
    | bin _ t2 x y a2 b2 h0 hk g1 g2 =>
      obtain ⟨b1, v1, hv1, e1⟩ := g1.scan_any S (0 + 1) none 99 (t2 :: y) _ rfl (by have := S.lvl_le t2; omega)
      have h3 := g2.scan_low S (0 + 1 + x.length + 1) (some (0 + 1 + x.length)) (S.lvl t2) [] (by intro m hm; cases hm; omega)
      rw [List.append_nil] at h3
      rw [e1] at hp
      simp only [scan, dl_op S h0, (S.lvl_op t2 h0).1] at hp
      rw [if_pos ⟨by trivial, by omega, h0, hv1⟩, show (0 : Int) + 0 = 0 by omega, h3] at hp
      simp [scan] at hp
  | par t t' l ra hp hu hL hne hc h1 ih =>
    intro e he
    have g := ih e he
    refine .one _ _ _ (.par t t' l e hL ?_ g)
    have hh := g.cls_in S 1 (by omega) t' []
    cases hl : l ++ [t'] with
    | nil => simp at hl
    | cons x y =>
      rw [hl] at hc
      simp only [cls, dl_L S hL] at hc
      rw [if_neg (by omega), show (0 : Int) + 1 = 1 by omega, ← hl, hh] at hc
      simp only [cls] at hc
      have hc1 : 1 + dl S t' = 0 := of_decide_eq_true hc
      unfold dl at hc1
      cases hr : S.isR t' with
      | true => rfl
      | false =>
        simp only [hr] at hc1
        split at hc1 <;> simp at hc1
  | one t hp hu => intro e he; exact .one _ _ _ (.atom t e he)
  | many t t' l hp hu hc => intro e he; cases he

/-- The two parsers agree. -/
theorem parse_agree {l : List τ} {res : Option (ν × List τ)} {res' : Option ν} (h : P S (.B 1 l) res) (h' : T S l res') (e : ν) : res = some (e, []) ↔ res' = some e :=
  (h.full S e).trans ⟨h'.complete S e, h'.sound S e⟩
end
end Go.Proofs.YtnjpfhihbjihbaaGreatDoor
