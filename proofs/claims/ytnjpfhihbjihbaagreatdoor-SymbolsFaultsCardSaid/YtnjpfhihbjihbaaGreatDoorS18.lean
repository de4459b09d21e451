/- Joined texts: ParseF, Line17, Sym, Find17. -/
import Derived.Test.YtnjpfhihbjihbaaGreatDoorS01
import Derived.Test.YtnjpfhihbjihbaaGreatDoorS04
import Derived.Test.YtnjpfhihbjihbaaGreatDoorS09
import Derived.Test.YtnjpfhihbjihbaaGreatDoorS12
import Derived.Test.YtnjpfhihbjihbaaGreatDoorS17
/- The parser as a function: it always has a result, and it has one. No program in sight. -/
namespace Go.Proofs.YtnjpfhihbjihbaaGreatDoor
open Go.RowKit Go.Sort

theorem P.total : ∀ (n : Nat) (l : List Tok), l.length ≤ n → (∃ res, P exLang (.U l) res) ∧ ∀ lv, ∃ res, P exLang (.B lv l) res
  | n, l, hn => by
    have ihn : ∀ l' : List Tok, l'.length < l.length → (∃ res, P exLang (.U l') res) ∧ ∀ lv, ∃ res, P exLang (.B lv l') res := fun l' h => P.total (n - 1) l' (by omega)
    have hU : ∃ res, P exLang (.U l) res := by
      rcases l with _ | ⟨t, r⟩
      · exact ⟨none, .nil⟩
      · rcases hu : tU t with _ | _
        · rcases hl : tL t with _ | _
          · exact ⟨_, .atom t r hu hl⟩
          · obtain ⟨res, h⟩ := (ihn r (by simp)).2 1
            rcases res with _ | ⟨e, r1⟩
            · exact ⟨none, .parN t r none hu hl h (fun e t' r h => by cases h)⟩
            · rcases r1 with _ | ⟨t', r2⟩
              · exact ⟨none, .parN t r _ hu hl h (fun e t' r h => by cases h)⟩
              · rcases hr : tR t' with _ | _
                · exact ⟨none, .parN t r _ hu hl h (fun e t2 r h => by cases h; exact hr)⟩
                · exact ⟨_, .par t t' r r2 e hu hl h hr⟩
        · obtain ⟨res, h⟩ := (ihn r (by simp)).1
          exact ⟨_, .un t r res hu h⟩
    have hL : ∀ (m : Nat) (lv : Nat) (a : Ex) (r : List Tok), r.length ≤ m → r.length < l.length → ∃ res, P exLang (.L lv a r) res := by
      intro m
      induction m with
      | zero =>
        intro lv a r hr _
        obtain rfl : r = [] := List.eq_nil_of_length_eq_zero (by omega)
        exact ⟨_, .stop lv a [] (fun t r h => by cases h)⟩
      | succ m ihm =>
        intro lv a r hr hlt
        rcases r with _ | ⟨t, r⟩
        · exact ⟨_, .stop lv a [] (fun t r h => by cases h)⟩
        · by_cases hs : exLang.lvl t = 0 ∨ exLang.lvl t < lv
          · exact ⟨_, .stop lv a _ (fun t' r' h => by cases h; exact hs)⟩
          · obtain ⟨res, h⟩ := (ihn r (by simp at hlt; omega)).2 (exLang.lvl t + 1)
            rcases res with _ | ⟨b, r'⟩
            · exact ⟨none, .stepN lv a t r (fun h0 => hs (.inl h0)) (fun h0 => hs (.inr h0)) h⟩
            · obtain ⟨l1, hl1, hne⟩ := (P.ends h b r' rfl).2 _ r rfl
              have hlen : r'.length < r.length := by
                rw [hl1, List.length_append]
                have : 0 < l1.length := List.length_pos_iff.2 hne
                omega
              obtain ⟨res, h2⟩ := ihm lv (exLang.bin t a b) r' (by simp at hr; omega) (by simp at hlt; omega)
              exact ⟨res, .step lv a b t r r' res (fun h0 => hs (.inl h0)) (fun h0 => hs (.inr h0)) h h2⟩
    refine ⟨hU, fun lv => ?_⟩
    obtain ⟨res, h⟩ := hU
    rcases res with _ | ⟨a, r⟩
    · exact ⟨none, .binN lv l h⟩
    · obtain ⟨l1, hl1, hne⟩ := (P.ends h a r rfl).1 l rfl
      have hlen : r.length < l.length := by
        rw [hl1, List.length_append]
        have : 0 < l1.length := List.length_pos_iff.2 hne
        omega
      obtain ⟨res, h2⟩ := hL r.length lv a r (Nat.le_refl _) hlen
      exact ⟨res, .bin lv l r a res h h2⟩
  termination_by _ l => l.length
theorem P.some_res (l : List Tok) : ∃ res, P exLang (.B 1 l) res := (P.total l.length l (Nat.le_refl _)).2 1
/-- What tokens are parsed to: the code and the expression. -/
noncomputable def parseR (l : List Tok) : Int × Option Ex := parsed (Classical.choose (P.some_res l))
theorem parseR_of {l : List Tok} {res : Option (Ex × List Tok)} (h : P exLang (.B 1 l) res) : parsed res = parseR l := by
  unfold parseR
  rw [P.det exLang h (Classical.choose_spec (P.some_res l))]
theorem any_uniq (L : List (List UInt8)) : (uniq L).any resv = L.any resv := by
  rw [Bool.eq_iff_iff, List.any_eq_true, List.any_eq_true]
  exact ⟨fun ⟨x, h, h2⟩ => ⟨x, (mem_uniq L x).1 h, h2⟩, fun ⟨x, h, h2⟩ => ⟨x, (mem_uniq L x).2 h, h2⟩⟩
theorem rparsed_of {l : List Tok} {res : Option Ex} (h : T exLang l res) : rparsed res = parseR l := by
  obtain ⟨r, hr⟩ := P.some_res l
  rw [← parseR_of hr]
  have ha := fun e => parse_agree exLang hr h e
  rcases res with _ | x
  · have hn : ∀ e, r ≠ some (e, []) := fun e he => by have := (ha e).1 he; cases this
    rcases r with _ | ⟨e, r⟩
    · rfl
    · have : r ≠ [] := by rintro rfl; exact hn e rfl
      simp [parsed, this, rparsed]
  · have hr2 := (ha x).2 rfl
    subst hr2
    simp only [parsed, rparsed, if_true]
    rw [any_uniq]
    simp [lSyms]
theorem parseR_ok {l : List Tok} {x : Ex} (h : (parseR l).2 = some x) : P exLang (.B 1 l) (some (x, [])) ∧ (parseR l).1 = 0 := by
  obtain ⟨r, hr⟩ := P.some_res l
  rw [← parseR_of hr] at h ⊢
  rcases r with _ | ⟨e, r⟩
  · cases h
  · unfold parsed at h ⊢
    dsimp only at h ⊢
    by_cases h1 : r = []
    · subst h1
      rw [if_pos rfl] at h ⊢
      by_cases h2 : (uniq (lSyms [some e])).any resv = true
      · rw [if_pos h2] at h; cases h
      · rw [if_neg h2] at h ⊢
        cases h
        exact ⟨hr, rfl⟩
    · rw [if_neg h1] at h; cases h
theorem parseR_code {l : List Tok} (h : (parseR l).2 = none) : (parseR l).1 = 3 ∨ (parseR l).1 = 21 := by
  obtain ⟨r, hr⟩ := P.some_res l
  rw [← parseR_of hr] at h ⊢
  rcases r with _ | ⟨e, r⟩
  · exact .inl rfl
  · unfold parsed at h ⊢
    dsimp only at h ⊢
    repeat' split
    all_goals first | exact .inl rfl | exact .inr rfl | (simp_all; done)
theorem parseR_good {l : List Tok} {x : Ex} (ht : TokOk l) (h : (parseR l).2 = some x) : x.good ∧ x.nodes ≤ l.length ∧ SymsOk x := by
  have hp := (parseR_ok h).1
  exact ⟨(P.good hp ht x [] rfl).1, by have := P.size hp x [] rfl; simpa [stM] using this, (P.syms hp ht.small x [] rfl).1⟩
theorem T_good {l : List Tok} {x : Ex} (ht : TokOk l) (h : T exLang l (some x)) : x.good ∧ x.nodes ≤ l.length ∧ SymsOk x := by
  obtain ⟨r, hr⟩ := P.some_res l
  have hr2 := (parse_agree exLang hr h x).2 rfl
  subst hr2
  exact ⟨(P.good hr ht x [] rfl).1, by have := P.size hr x [] rfl; simpa [stM] using this, (P.syms hr ht.small x [] rfl).1⟩
/-- What both functions Parse leave. -/
def ParseRes (T : TypeId) (l : List Tok) (w : World) (e : Ending) (w' : World) : Prop := ∃ vt, e = .returned (.tuple #[vt, .int .i64 (parseR l).1]) ∧ OptAt T w' (parseR l).2 vt ∧ Below w.heap.size w w'
theorem parse_any (l : List Tok) (v : Value) (w : World) (hr : Row w v l.length (tokc l)) (hs : TokOk l) (hl : l.length ≤ 1000000) : Calls Tryz.prog 39 #[v] w (ParseRes 130 l w) := by
  refine (parseE_any l v w hs.small hl hr.tok).mono ?_
  rintro e w' ⟨res, hP, vt, he, ho, hb⟩
  rw [parseR_of hP] at he ho
  exact ⟨vt, he, ho, hb⟩
theorem rparse_any (l : List Tok) (v : Value) (w : World) (hr : Row w v l.length (tokc l)) (hs : TokOk l) (hl : l.length ≤ 1000000) : Calls Tryz.prog 36 #[v] w (ParseRes 89 l w) := by
  refine (rparse17_any l v w hr hs.small hl (fun x hx => ⟨Nat.le_trans (T_good hs hx).2.1 hl, (T_good hs hx).2.2⟩)).mono ?_
  rintro e w' ⟨res, hT, vt, he, ho, hb⟩
  rw [rparsed_of hT] at he ho
  exact ⟨vt, he, ho, hb⟩
end Go.Proofs.YtnjpfhihbjihbaaGreatDoor

/- Lines and their tokens. No program in sight. -/
namespace Go.Proofs.YtnjpfhihbjihbaaGreatDoor
open Go.RowKit Go.Sort

theorem toksGo_code (s : ByteArray) (i : Nat) (acc : List Tok) (c : Int) (h : toksGo s i acc = .error c) : c = 3 ∨ c = 20 := by
  by_cases h1 : moreAt s (skipEnd s i) = true
  · cases hn : nextP s (skipEnd s i) with
    | error e =>
      rw [toksGo_err s i acc e h1 hn] at h
      cases h
      exact nextP_err s _ c hn
    | ok x =>
      obtain ⟨t, n⟩ := x
      have hl := moreAt_lt h1
      have hb := nextP_bd s _ hl t n hn
      have hg := skipEnd_ge s i
      rw [toksGo_step s i acc t n h1 hn] at h
      exact toksGo_code s n (acc ++ [t]) c h
  · rw [toksGo_end s i acc (by simpa using h1)] at h
    cases h
  termination_by s.size - i
theorem toksP_code {s : ByteArray} {c : Int} (h : toksP s = .error c) : c = 3 ∨ c = 20 ∨ c = 19 := by
  unfold toksP at h
  split at h
  · cases h; exact .inr (.inr rfl)
  · rcases toksGo_code s 0 [] c h with h | h
    · exact .inl h
    · exact .inr (.inl h)
theorem toksP_ok {s : ByteArray} {l : List Tok} (h : toksP s = .ok l) : TokOk l ∧ 1 ≤ l.length ∧ l.length ≤ 1025 := by
  unfold toksP at h
  split at h
  · cases h
  · rename_i hs
    have hl := toksGo_len s 0 [] l (Nat.zero_le _) h
    refine ⟨toksGo_all s 0 [] l h _ (fun t ht => by cases ht) (fun j => ⟨Nat.zero_le _, Int.le_refl _, by show (0 : Int) ≤ 65535; decide⟩) (fun j n t hj hn => ?_), by simpa using hl.1, by have := hl.2; simp at this; omega⟩
    have := nextP_bd s j hj t n hn
    exact ⟨by omega, this.2.2.2.1, this.2.2.2.2⟩
theorem TokOk.sub {l : List Tok} (h : TokOk l) : TokOk l.dropLast := fun t ht => h t (List.dropLast_subset l ht)
theorem dropLast_part (l : List Tok) : (l.take (l.length - 1)).drop 0 = l.dropLast := by rw [List.drop_zero, List.dropLast_eq_take]
/-- What a line is parsed to. -/
noncomputable def parseL (s : ByteArray) : Int × Option Ex := match toksP s with | .ok l => parseR l.dropLast | .error c => (c, none)
/-- The tokens of a line that is short and has some. -/
def knownP (s : ByteArray) : Option (List Tok) := if 200 < s.size then none else match toksP s with | .ok l => some l.dropLast | .error _ => none
theorem knownP_ok {s : ByteArray} {l : List Tok} (h : knownP s = some l) : TokOk l ∧ l.length ≤ 1024 ∧ parseL s = parseR l := by
  unfold knownP at h
  split at h
  · cases h
  · unfold parseL
    cases ht : toksP s with
    | error c => rw [ht] at h; cases h
    | ok m =>
      rw [ht] at h
      cases h
      have := toksP_ok ht
      exact ⟨this.1.sub, by rw [List.length_dropLast]; omega, rfl⟩
theorem nodes_le {l : List Tok} (ht : TokOk l) : oNodes (parseR l).2 ≤ l.length := by
  rcases h : (parseR l).2 with _ | x
  · exact Nat.zero_le _
  · exact (parseR_good ht h).2.1
end Go.Proofs.YtnjpfhihbjihbaaGreatDoor

/- Symbols and their values: the least fixed point. No program in sight. -/
namespace Go.Proofs.YtnjpfhihbjihbaaGreatDoor
open Go.RowKit Go.Sort

/-- A symbol. -/
structure Sy where
  name : ByteArray
  n : Int
  ex : Option Ex
  here : Int
  line : Int
abbrev Env := ByteArray → Option Int
theorem rangedP_self : ∀ (p q : Int), (if p = 0 then q else p) = (if p = 0 then q else p) := fun _ _ => rfl
theorem eval_mono (e f : Env) (h : Int) : ∀ x : Ex, (x.eval e h).2 = 0 → (∀ t ∈ x.syms, ∀ n, e t = some n → f t = some n) → x.eval f h = x.eval e h
  | .num n, _, _ => rfl
  | .here, _, _ => rfl
  | .sym s, h0, hs => by
    rcases he : e s with _ | n
    · simp [Ex.eval, he] at h0
    · have := hs s (by simp [Ex.syms]) n he
      simp [Ex.eval, he, this]
  | .un op a, h0, hs => by
    have ha : (a.eval e h).2 = 0 := by
      rcases Decidable.em ((a.eval e h).2 = 0) with h1 | h1
      · exact h1
      · simp only [Ex.eval, if_neg h1] at h0; exact h0
    simp only [Ex.eval, eval_mono e f h a ha (fun t ht => hs t (by simpa [Ex.syms] using ht))]
  | .bin op a b, h0, hs => by
    have ha : (a.eval e h).2 = 0 := by
      rcases Decidable.em ((a.eval e h).2 = 0) with h1 | h1
      · exact h1
      · simp only [Ex.eval, if_neg h1] at h0; exact h0
    have hb : (b.eval e h).2 = 0 := by
      rcases Decidable.em ((b.eval e h).2 = 0) with h1 | h1
      · exact h1
      · simp only [Ex.eval, if_pos ha, if_neg h1] at h0; exact h0
    simp only [Ex.eval, eval_mono e f h a ha (fun t ht => hs t (by simp [Ex.syms, ht])), eval_mono e f h b hb (fun t ht => hs t (by simp [Ex.syms, ht]))]
theorem eval_has (e : Env) (h : Int) : ∀ x : Ex, (x.eval e h).2 = 0 → ∀ t ∈ x.syms, ∃ n, e t = some n
  | .num n, _, t, ht => by simp [Ex.syms] at ht
  | .here, _, t, ht => by simp [Ex.syms] at ht
  | .sym s, h0, t, ht => by
    obtain rfl : t = s := by simpa [Ex.syms] using ht
    rcases he : e t with _ | n
    · simp [Ex.eval, he] at h0
    · exact ⟨n, rfl⟩
  | .un op a, h0, t, ht => by
    have ha : (a.eval e h).2 = 0 := by
      rcases Decidable.em ((a.eval e h).2 = 0) with h1 | h1
      · exact h1
      · simp only [Ex.eval, if_neg h1] at h0; exact h0
    exact eval_has e h a ha t (by simpa [Ex.syms] using ht)
  | .bin op a b, h0, t, ht => by
    have ha : (a.eval e h).2 = 0 := by
      rcases Decidable.em ((a.eval e h).2 = 0) with h1 | h1
      · exact h1
      · simp only [Ex.eval, if_neg h1] at h0; exact h0
    have hb : (b.eval e h).2 = 0 := by
      rcases Decidable.em ((b.eval e h).2 = 0) with h1 | h1
      · exact h1
      · simp only [Ex.eval, if_pos ha, if_neg h1] at h0; exact h0
    simp only [Ex.syms, List.mem_append] at ht
    rcases ht with ht | ht
    · exact eval_has e h a ha t ht
    · exact eval_has e h b hb t ht
theorem eval_congr (e f : Env) (h : Int) : ∀ x : Ex, (∀ t ∈ x.syms, e t = f t) → x.eval e h = x.eval f h
  | .num n, _ => rfl
  | .here, _ => rfl
  | .sym s, hs => by simp only [Ex.eval, hs s (by simp [Ex.syms])]
  | .un op a, hs => by simp only [Ex.eval, eval_congr e f h a (fun t ht => hs t (by simpa [Ex.syms] using ht))]
  | .bin op a b, hs => by simp only [Ex.eval, eval_congr e f h a (fun t ht => hs t (by simp [Ex.syms, ht])), eval_congr e f h b (fun t ht => hs t (by simp [Ex.syms, ht]))]
/-- The value and the code of a symbol, by the values of others. -/
def Sy.ev (s : Sy) (e : Env) : Int × Int := match s.ex with | none => (s.n, 0) | some x => x.eval e s.here
/-- The symbols of a symbol's expression. -/
def Sy.syms (s : Sy) : List ByteArray := match s.ex with | none => [] | some x => x.syms
theorem Sy.mono {s : Sy} {e f : Env} (h0 : (s.ev e).2 = 0) (h : ∀ t ∈ s.syms, ∀ n, e t = some n → f t = some n) : s.ev f = s.ev e := by
  unfold Sy.ev Sy.syms at *
  split <;> simp_all only
  exact eval_mono _ _ _ _ h0 h
theorem Sy.has {s : Sy} {e : Env} (h0 : (s.ev e).2 = 0) : ∀ t ∈ s.syms, ∃ n, e t = some n := by
  unfold Sy.ev Sy.syms at *
  split <;> simp_all only
  · intro t ht; simp at ht
  · exact eval_has _ _ _ h0
theorem Sy.congr {s : Sy} {e f : Env} (h : ∀ t ∈ s.syms, e t = f t) : s.ev e = s.ev f := by
  unfold Sy.ev Sy.syms at *
  split <;> simp_all only
  exact eval_congr _ _ _ _ h
/-- The symbol with a name. -/
def sfindS : List Sy → ByteArray → Option Sy
  | [], _ => none
  | s :: l, t => if t = s.name then some s else sfindS l t
theorem sfindS_some {L : List Sy} {t : ByteArray} {s : Sy} (h : sfindS L t = some s) : s ∈ L ∧ s.name = t := by
  induction L with
  | nil => cases h
  | cons a l ih =>
    unfold sfindS at h
    split at h
    · rename_i e; cases h; exact ⟨List.mem_cons_self, e.symm⟩
    · have := ih h; exact ⟨List.mem_cons_of_mem _ this.1, this.2⟩
theorem sfindS_none {L : List Sy} {t : ByteArray} : sfindS L t = none ↔ ∀ s ∈ L, s.name ≠ t := by
  induction L with
  | nil => simp [sfindS]
  | cons a l ih =>
    unfold sfindS
    split
    · rename_i e; simp [e]
    · rename_i e
      rw [ih]
      simp only [List.mem_cons, forall_eq_or_imp]
      exact ⟨fun h => ⟨fun h2 => e h2.symm, h⟩, fun h => h.2⟩
theorem sfindS_mem {L : List Sy} (hn : (L.map Sy.name).Nodup) {s : Sy} (h : s ∈ L) : sfindS L s.name = some s := by
  induction L with
  | nil => cases h
  | cons a l ih =>
    rw [List.map_cons, List.nodup_cons] at hn
    unfold sfindS
    split
    · rename_i e
      rcases List.mem_cons.1 h with rfl | h
      · rfl
      · exact absurd (e ▸ List.mem_map_of_mem h) hn.1
    · rename_i e
      rcases List.mem_cons.1 h with rfl | h
      · exact absurd rfl e
      · exact ih hn.2 h
theorem sfindS_ext {L M : List Sy} (hM : (M.map Sy.name).Nodup) (h : ∀ s, s ∈ L ↔ s ∈ M) (t : ByteArray) : sfindS L t = sfindS M t := by
  rcases hl : sfindS L t with _ | s
  · rw [sfindS_none] at hl
    exact (sfindS_none.2 fun s hs => hl s ((h s).2 hs)).symm
  · obtain ⟨h1, h2⟩ := sfindS_some hl
    rw [← h2]
    exact (sfindS_mem hM ((h s).1 h1)).symm
/-- The values after k rounds. -/
def kenv (L : List Sy) : Nat → Env
  | 0, _ => none
  | k + 1, t => match sfindS L t with
    | none => none
    | some s => if (s.ev (kenv L k)).2 = 0 then some (s.ev (kenv L k)).1 else none
theorem kenv_succ (L : List Sy) (t : ByteArray) (n : Int) : ∀ k, kenv L k t = some n → kenv L (k + 1) t = some n
  | 0, h => by cases h
  | k + 1, h => by
    unfold kenv at h ⊢
    split at h
    · cases h
    · rename_i s hs
      split at h
      · rename_i h0
        have := Sy.mono h0 (f := kenv L (k + 1)) fun t _ n hn => kenv_succ L t n k hn
        simp only [this, if_pos h0]
        exact h
      · cases h
theorem kenv_le (L : List Sy) (t : ByteArray) (n : Int) (k : Nat) (h : kenv L k t = some n) : ∀ j, kenv L (k + j) t = some n
  | 0 => h
  | j + 1 => kenv_succ L t n (k + j) (kenv_le L t n k h j)
theorem kenv_fun {L : List Sy} {t : ByteArray} {n m : Int} {k j : Nat} (h : kenv L k t = some n) (h2 : kenv L j t = some m) : n = m := by
  have h1 := kenv_le L t n k h j
  have h2 := kenv_le L t m j h2 k
  rw [Nat.add_comm] at h2
  rw [h1] at h2
  exact Option.some.inj h2
open Classical in
/-- The values of the symbols that have one. -/
noncomputable def Kn (L : List Sy) : Env := fun t => if h : ∃ k n, kenv L k t = some n then some h.choose_spec.choose else none
theorem Kn_iff {L : List Sy} {t : ByteArray} {n : Int} : Kn L t = some n ↔ ∃ k, kenv L k t = some n := by
  unfold Kn
  split
  · rename_i h
    have h2 := h.choose_spec.choose_spec
    constructor
    · intro e
      rw [Option.some.injEq] at e
      exact ⟨_, e ▸ h2⟩
    · rintro ⟨k, hk⟩
      rw [Option.some.injEq]
      exact kenv_fun h2 hk
  · rename_i h
    constructor
    · intro e; cases e
    · rintro ⟨k, hk⟩; exact absurd ⟨k, n, hk⟩ h
theorem kenv_Kn {L : List Sy} {t : ByteArray} {n : Int} {k : Nat} (h : kenv L k t = some n) : Kn L t = some n := Kn_iff.2 ⟨k, h⟩
theorem kenv_all {L : List Sy} (l : List ByteArray) (h : ∀ t ∈ l, ∃ n, Kn L t = some n) : ∃ k, ∀ t ∈ l, ∀ n, Kn L t = some n → kenv L k t = some n := by
  induction l with
  | nil => exact ⟨0, fun t ht => by cases ht⟩
  | cons a l ih =>
    obtain ⟨k, hk⟩ := ih fun t ht => h t (List.mem_cons_of_mem _ ht)
    obtain ⟨m, hm⟩ := h a List.mem_cons_self
    obtain ⟨j, hj⟩ := Kn_iff.1 hm
    refine ⟨k + j, fun t ht n hn => ?_⟩
    rcases List.mem_cons.1 ht with rfl | ht
    · rw [hm] at hn; cases hn
      rw [Nat.add_comm]; exact kenv_le _ _ _ _ hj k
    · exact kenv_le _ _ _ _ (hk t ht n hn) j
/-- The values are a fixed point. -/
theorem Kn_step {L : List Sy} {t : ByteArray} {s : Sy} (hs : sfindS L t = some s) (h0 : (s.ev (Kn L)).2 = 0) : Kn L t = some (s.ev (Kn L)).1 := by
  obtain ⟨k, hk⟩ := kenv_all s.syms (Sy.has h0)
  have he := Sy.mono h0 hk
  refine Kn_iff.2 ⟨k + 1, ?_⟩
  unfold kenv
  rw [hs]
  simp only [he, if_pos h0]
theorem Kn_inv {L : List Sy} {t : ByteArray} {n : Int} (h : Kn L t = some n) : ∃ s, sfindS L t = some s ∧ s.ev (Kn L) = (n, 0) := by
  obtain ⟨k, hk⟩ := Kn_iff.1 h
  cases k with
  | zero => cases hk
  | succ k =>
    unfold kenv at hk
    split at hk
    · cases hk
    · rename_i s hs
      split at hk
      · rename_i h0
        have := Sy.mono h0 (f := Kn L) fun t _ n hn => kenv_Kn hn
        refine ⟨s, hs, ?_⟩
        rw [this]
        cases hk
        exact Prod.ext rfl h0
      · cases hk
theorem Kn_none {L : List Sy} {t : ByteArray} (h : sfindS L t = none) : Kn L t = none := by
  rcases hk : Kn L t with _ | n
  · rfl
  · obtain ⟨s, hs, _⟩ := Kn_inv hk
    rw [h] at hs; cases hs
theorem kenv_ext {L M : List Sy} (h : ∀ t, sfindS L t = sfindS M t) : ∀ k, kenv L k = kenv M k
  | 0 => rfl
  | k + 1 => by
    funext t
    unfold kenv
    rw [h t, kenv_ext h k]
theorem Kn_ext {L M : List Sy} (h : ∀ t, sfindS L t = sfindS M t) : Kn L = Kn M := by
  funext t
  apply Option.ext
  intro n
  rw [Kn_iff, Kn_iff]
  simp only [kenv_ext h]
/-- A symbol whose numbers are in the range. -/
def SyOk (s : Sy) : Prop := (-2147483648 ≤ s.n ∧ s.n ≤ 2147483647) ∧ (-2147483648 ≤ s.here ∧ s.here ≤ 2147483647) ∧ ∀ x, s.ex = some x → x.good ∧ x.nodes ≤ 1000000
theorem kenv_in {L : List Sy} (hok : ∀ s ∈ L, SyOk s) : ∀ k t n, kenv L k t = some n → -2147483648 ≤ n ∧ n ≤ 2147483647
  | 0, t, n, h => by cases h
  | k + 1, t, n, h => by
    unfold kenv at h
    split at h
    · cases h
    · rename_i s hs
      have ho := hok s (sfindS_some hs).1
      split at h
      · cases h
        unfold Sy.ev
        split
        · exact ho.1
        · rename_i x hx
          exact eval_in _ _ (kenv_in hok k) ho.2.1 x (ho.2.2 x hx).1
      · cases h
theorem Kn_in {L : List Sy} (hok : ∀ s ∈ L, SyOk s) (t : ByteArray) (n : Int) (h : Kn L t = some n) : -2147483648 ≤ n ∧ n ≤ 2147483647 := by
  obtain ⟨k, hk⟩ := Kn_iff.1 h
  exact kenv_in hok k t n hk
/-- A symbol's expression names another that is defined. -/
def Dep (L : List Sy) (a b : ByteArray) : Prop := ∃ s, sfindS L a = some s ∧ b ∈ s.syms ∧ ∃ s', sfindS L b = some s'
/-- In one or more steps. -/
inductive Leads (L : List Sy) : ByteArray → ByteArray → Prop
  | one {a b} : Dep L a b → Leads L a b
  | more {a b c} : Leads L a b → Dep L b c → Leads L a c
theorem Leads.trans {L : List Sy} {a b c : ByteArray} (h : Leads L a b) (k : Leads L b c) : Leads L a c := by
  induction k with
  | one d => exact .more h d
  | more _ d ih => exact .more ih d
/-- A symbol that has a value after k + 1 rounds leads to symbols that have one after k. -/
theorem dep_rank {L : List Sy} {a b : ByteArray} (hd : Dep L a b) {k : Nat} {n : Int} (h : kenv L k a = some n) : ∃ j m, j < k ∧ kenv L j b = some m := by
  obtain ⟨s, hs, hb, _⟩ := hd
  cases k with
  | zero => cases h
  | succ k =>
    unfold kenv at h
    rw [hs] at h
    simp only at h
    split at h
    · rename_i h0
      obtain ⟨m, hm⟩ := Sy.has h0 b hb
      exact ⟨k, m, Nat.lt_succ_self _, hm⟩
    · cases h
theorem reach_rank {L : List Sy} {a b : ByteArray} (hr : Leads L a b) {k : Nat} {n : Int} (h : kenv L k a = some n) : ∃ j m, j < k ∧ kenv L j b = some m := by
  induction hr with
  | one d => exact dep_rank d h
  | more _ d ih =>
    obtain ⟨j, m, hj, hm⟩ := ih
    obtain ⟨i, p, hi, hp⟩ := dep_rank d hm
    exact ⟨i, p, Nat.lt_trans hi hj, hp⟩
theorem cycle_none {L : List Sy} {a : ByteArray} (h : Leads L a a) : ∀ k, kenv L k a = none := by
  intro k
  induction k using Nat.strongRecOn with
  | _ k ih =>
    rcases hk : kenv L k a with _ | n
    · rfl
    · obtain ⟨j, m, hj, hm⟩ := reach_rank h hk
      rw [ih j hj] at hm; cases hm
/-- A symbol that depends on itself has no value. -/
theorem Kn_cycle {L : List Sy} {a : ByteArray} (h : Leads L a a) : Kn L a = none := by
  rcases hk : Kn L a with _ | n
  · rfl
  · obtain ⟨k, hk⟩ := Kn_iff.1 hk
    rw [cycle_none h k] at hk; cases hk
/-- The state of the walk through the symbols: S is seen, O are the values found, A are the symbols in the midst of whose expressions we are. -/
structure Vis (L : List Sy) (A : ByteArray → Prop) (S : ByteArray → Prop) (O : Env) : Prop where
  sound : ∀ t n, O t = some n → Kn L t = some n
  seen : ∀ t n, O t = some n → S t
  anc : ∀ t, A t → S t
  done : ∀ t n, S t → ¬ A t → Kn L t = some n → O t = some n
theorem Vis.start (L : List Sy) : Vis L (fun _ => False) (fun _ => False) (fun _ => none) := ⟨fun _ _ h => by simp at h, fun _ _ h => by simp at h, fun _ h => h.elim, fun _ _ h => h.elim⟩
/-- Into an expression. -/
theorem Vis.into {L : List Sy} {A S : ByteArray → Prop} {O : Env} (h : Vis L A S O) (t : ByteArray) : Vis L (fun u => A u ∨ u = t) (fun u => S u ∨ u = t) O :=
  ⟨h.sound, fun u n hu => .inl (h.seen u n hu), fun u hu => hu.elim (fun a => .inl (h.anc u a)) .inr, fun u n hs ha hk => by
    rcases hs with hs | rfl
    · exact h.done u n hs (fun a => ha (.inl a)) hk
    · exact absurd (.inr rfl) ha⟩
/-- Out of it, when all of its symbols have been seen. -/
theorem Vis.out {L : List Sy} {A S : ByteArray → Prop} {O : Env} {t : ByteArray} {s : Sy} (h : Vis L (fun u => A u ∨ u = t) S O) (hs : sfindS L t = some s) (hA : ¬ A t) (hall : ∀ b ∈ s.syms, (∃ s', sfindS L b = some s') → S b) (hreach : ∀ a, A a → Leads L a t) :
    Vis L A S (fun u => if u = t then (if (s.ev O).2 = 0 then some (s.ev O).1 else O t) else O u) := by
  have hval : ∀ n, Kn L t = some n → s.ev O = (n, 0) := fun n hn => by
    obtain ⟨s2, hs2, he⟩ := Kn_inv hn
    rw [hs] at hs2; cases hs2
    rw [← he]
    refine Sy.congr fun b hb => ?_
    obtain ⟨m, hm⟩ := Sy.has (e := Kn L) (by rw [he]) b hb
    rw [hm]
    obtain ⟨s', hs', _⟩ := Kn_inv hm
    have hd : Dep L t b := ⟨s, hs, hb, s', hs'⟩
    refine h.done b m (hall b hb ⟨s', hs'⟩) (fun hab => ?_) hm
    have hr : Leads L t t := by
      rcases hab with ha | rfl
      · exact (Leads.one hd).trans (hreach b ha)
      · exact .one hd
    rw [Kn_cycle hr] at hn; cases hn
  refine ⟨fun u n hu => ?_, fun u n hu => ?_, fun u hu => h.anc u (.inl hu), fun u n hu ha hk => ?_⟩
  · split at hu
    · rename_i e; subst e
      split at hu
      · rename_i h0
        have he := Sy.mono h0 (f := Kn L) fun b _ m hm => h.sound b m hm
        have := Kn_step hs (by rw [he]; exact h0)
        rw [this, he]; exact hu
      · exact h.sound u n hu
    · exact h.sound u n hu
  · split at hu
    · rename_i e; subst e; exact h.anc u (.inr rfl)
    · exact h.seen u n hu
  · split
    · rename_i e; subst e
      rw [hval n hk, if_pos rfl]
    · rename_i e
      exact h.done u n hu (fun hh => hh.elim ha e) hk
end Go.Proofs.YtnjpfhihbjihbaaGreatDoor

/- breadboardref17.find. -/
namespace Go.Proofs.YtnjpfhihbjihbaaGreatDoor
open Go.RowKit Go.Sort

/-- The value that a list of pairs gives to a name: the last one counts. -/
def envL (l : List (ByteArray × Int)) (s : ByteArray) : Option Int := l.foldl (fun acc x => if x.1 == s then some x.2 else acc) none
theorem envL_snoc (l : List (ByteArray × Int)) (x : ByteArray × Int) (s : ByteArray) : envL (l ++ [x]) s = if x.1 == s then some x.2 else envL l s := by
  unfold envL; rw [List.foldl_append]; rfl
theorem envL_take (l : List (ByteArray × Int)) (k : Nat) (x : ByteArray × Int) (h : l[k]? = some x) (s : ByteArray) : envL (l.take (k + 1)) s = if x.1 == s then some x.2 else envL (l.take k) s := by
  rw [List.take_add_one, h]; exact envL_snoc _ _ _
theorem envL_mem (l : List (ByteArray × Int)) (s : ByteArray) : ∀ n, envL l s = some n → ∃ x ∈ l, x.2 = n := by
  have h : ∀ (l : List (ByteArray × Int)) (acc : Option Int) (n : Int), l.foldl (fun acc x => if x.1 == s then some x.2 else acc) acc = some n → acc = some n ∨ ∃ x ∈ l, x.2 = n := by
    intro l
    induction l with
    | nil => intro acc n h; exact .inl h
    | cons a l ih =>
      intro acc n h
      rw [List.foldl_cons] at h
      rcases ih _ n h with h | ⟨x, hx, h⟩
      · split at h
        · cases h; exact .inr ⟨a, List.mem_cons_self, rfl⟩
        · exact .inl h
      · exact .inr ⟨x, List.mem_cons_of_mem _ hx, h⟩
  intro n hn
  rcases h l none n hn with h | h
  · cases h
  · exact h
/-- The cells of pairs. -/
def valc (l : List (ByteArray × Int)) : List Value := l.flatMap fun x => [.string x.1, .int .i64 x.2]
theorem valc_len (l : List (ByteArray × Int)) : (valc l).length = l.length * 2 := by
  unfold valc
  induction l with
  | nil => rfl
  | cons a l ih => simp at ih ⊢; omega
theorem valc_get : ∀ (l : List (ByteArray × Int)) (i : Nat) (x : ByteArray × Int), l[i]? = some x → (valc l)[i * 2]? = some (.string x.1) ∧ (valc l)[i * 2 + 1]? = some (.int .i64 x.2)
  | [], i, x, h => by simp at h
  | a :: l, 0, x, h => by
    simp at h; subst h
    exact ⟨rfl, rfl⟩
  | a :: l, i + 1, x, h => by
    have hx : l[i]? = some x := by simpa using h
    obtain ⟨g0, g1⟩ := valc_get l i x hx
    have e : ∀ k, (valc (a :: l))[(i + 1) * 2 + k]? = (valc l)[i * 2 + k]? := fun k => by
      show ([Value.string a.1, .int .i64 a.2] ++ valc l)[(i + 1) * 2 + k]? = _
      rw [List.getElem?_append_right (by simp; omega)]
      congr 1
      simp; omega
    refine ⟨?_, ?_⟩
    · have := e 0; simp only [Nat.add_zero] at this; rw [this]; exact g0
    · rw [e 1]; exact g1
theorem Row.vals {w : World} {v : Value} {l : List (ByteArray × Int)} (h : Row w v l.length (valc l)) : ∃ a cap, v = .slice a l.length cap ∧ l.length ≤ cap ∧ (l ≠ [] → ∃ g o, a = some ⟨g, o, none⟩ ∧ g < w.heap.size ∧ ∀ i x, l[i]? = some x →
    w.cell? ⟨g, o + i * 2, none⟩ = some (.string x.1) ∧ w.cell? ⟨g, o + i * 2 + 1, none⟩ = some (.int .i64 x.2)) := by
  obtain ⟨a, cap, hv, hn, h⟩ := h
  refine ⟨a, cap, hv, hn, fun hl => ?_⟩
  obtain ⟨g, o, ha, hg, hc⟩ := h (by intro e; apply hl; have := valc_len l; rw [e] at this; exact List.eq_nil_of_length_eq_zero (by simp at this; omega))
  refine ⟨g, o, ha, hg, fun i x hx => ?_⟩
  have hi : i < l.length := (List.getElem?_eq_some_iff.1 hx).1
  have hlen := valc_len l
  obtain ⟨e0, e1⟩ := valc_get l i x hx
  exact ⟨(hc (i * 2) (by omega)).trans e0, by rw [Nat.add_assoc]; exact (hc (i * 2 + 1) (by omega)).trans e1⟩
theorem eqL (s t : ByteArray) : (s.toList == t.toList) = (s == t) := by
  rw [bbeq, Bool.eq_iff_iff, beq_iff_eq, decide_eq_true_iff, ByteArray.toList_eq, ByteArray.toList_eq]
  exact ⟨fun h => ByteArray.ext (Array.ext' h), fun h => by rw [h]⟩
set_option maxHeartbeats 1000000 in
theorem rfind_any (l : List (ByteArray × Int)) (s : ByteArray) (v : Value) (w : World) (hr : Row w v l.length (valc l)) (hl : l.length ≤ 1000000) :
    Calls Tryz.prog 40 #[v, .string s] w fun e w' => e = .returned (.tuple #[.int .i64 ((envL l s).getD 0), .bool (envL l s).isSome]) ∧ Below w.heap.size w w' := by
  obtain ⟨a, cap, rfl, hcap, hc⟩ := hr.vals
  have hl1 : (l.length : Int) ≤ 1000000 := by omega
  have hc1 : (l.length : Int) ≤ (cap : Int) := by omega
  have hl0 : (0 : Int) ≤ (l.length : Int) := by omega
  obtain ⟨R, hR⟩ : ∃ R, envL l s = R := ⟨_, rfl⟩
  rw [hR]
  have HC := Lib.hid hc; clear hc hr
  have HR : Hid (envL (l.take l.length) s = R) := Lib.hid (by rw [List.take_length]; exact hR)
  clear hR
  go_enter Tryz.func40, Tryz.ntmps40
  go_wp2_with fail
  go_loopw [6] (fun i wr => ∃ k : Nat, k ≤ l.length ∧ i = .int .i64 ((k : Int) - 1) ∧ Below w.heap.size w wr ∧ Hid (envL (l.take k) s = R)) (fun i _ => (intOf i + 1).toNat)
  case atStart => exact ⟨l.length, Nat.le_refl _, rfl, Below.refl _ _, HR⟩
  case round =>
    obtain ⟨k, hk, rfl, hbel, Hno⟩ := hrel
    have HBEL := Lib.hid hbel; clear hbel
    rcases k with _ | k
    · have hR0 : R = none := by rw [← Hno.out]; rfl
      have HR0 := Lib.hid hR0; clear hR0
      go_wp2_with fail
      exact bodyPost_ret (v := .tuple #[.int .i64 0, .bool false]) (by simp [results, Tryz.results40, go_sem]) rfl ⟨by rw [HR0.out]; rfl, HBEL.out⟩
    · obtain ⟨x, hx⟩ : ∃ x, l[k]? = some x := ⟨_, List.getElem?_eq_getElem (by omega)⟩
      obtain ⟨g, o, rfl, hg, hcs⟩ := HC.out (by rintro rfl; simp at hx)
      obtain ⟨e0, e1⟩ := hcs k x hx
      clear hcs
      have f0 := (HBEL.out.cell (p := ⟨g, o + k * 2, none⟩) hg).trans e0
      have f1 := (HBEL.out.cell (p := ⟨g, o + k * 2 + 1, none⟩) hg).trans e1
      have hstep := envL_take l k x hx s
      rw [Hno.out] at hstep
      have HST := Lib.hid hstep; clear hstep e0 e1 hx
      have hi0 : (0 : Int) ≤ (k : Int) := by omega
      have hi1 : (k : Int) < (l.length : Int) := by omega
      have hi2 : ((k + 1 : Nat) : Int) - 1 = (k : Int) := by omega
      obtain ⟨xn, xv⟩ := x
      simp only at f0 f1 HST
      have he := eqL xn s
      rw [hi2]
      clear hi2
      rcases hb : (xn == s) with _ | _
      · rw [hb] at he
        have HN : Hid (envL (l.take k) s = R) := Lib.hid (by have := HST.out; rw [hb] at this; exact this.symm)
        clear hb HST
        go_wp2_with fail
        go_roundw
        case rel => exact ⟨k, by omega, by go_num, HBEL.out, HN⟩
        case measure => first | (simp [intOf]; done) | (simp [intOf]; omega)
      · rw [hb] at he
        have HN : Hid (R = some xv) := Lib.hid (by have := HST.out; rw [hb] at this; exact this)
        clear hb HST
        go_wp2_with fail
        exact bodyPost_ret (v := .tuple #[.int .i64 xv, .bool true]) (by simp [results, Tryz.results40, go_sem]) rfl ⟨by rw [HN.out]; rfl, HBEL.out⟩
end Go.Proofs.YtnjpfhihbjihbaaGreatDoor
