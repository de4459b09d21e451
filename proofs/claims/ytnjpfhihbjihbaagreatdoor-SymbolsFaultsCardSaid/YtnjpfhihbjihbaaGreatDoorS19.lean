/- Joined texts: SymR, Line20, Lex16. -/
import Derived.Test.YtnjpfhihbjihbaaGreatDoorS03
import Derived.Test.YtnjpfhihbjihbaaGreatDoorS18
/- Symbols: the reference's rounds. No program in sight. -/
namespace Go.Proofs.YtnjpfhihbjihbaaGreatDoor
open Go.RowKit Go.Sort

theorem envL_get (l : List (ByteArray × Int)) (x : ByteArray × Int) (t : ByteArray) : envL (l ++ [x]) t = if t = x.1 then some x.2 else envL l t := by
  rw [envL_snoc, bbeq]
  by_cases h : t = x.1
  · simp [h]
  · simp [h, Ne.symm h]
theorem envL_nil (t : ByteArray) : envL [] t = none := rfl
theorem envL_has (l : List (ByteArray × Int)) (t : ByteArray) : (envL l t).isSome = true ↔ ∃ x ∈ l, x.1 = t := by
  rcases List.eq_nil_or_concat l with rfl | ⟨l', x, hl⟩
  · simp [envL_nil]
  · rw [List.concat_eq_append] at hl
    subst hl
    rw [envL_get]
    split
    · rename_i h; simp [h]
    · rename_i h
      rw [envL_has l' t]
      simp only [List.mem_append, List.mem_singleton]
      constructor
      · rintro ⟨y, hy, e⟩; exact ⟨y, .inl hy, e⟩
      · rintro ⟨y, hy | rfl, e⟩
        · exact ⟨y, hy, e⟩
        · exact absurd e.symm h
  termination_by l.length
  decreasing_by simp_all
/-- One symbol in a round. -/
def stepR (acc : List (ByteArray × Int)) (s : Sy) : List (ByteArray × Int) :=
  if (envL acc s.name).isSome = true then acc else if (s.ev (envL acc)).2 = 0 then acc ++ [(s.name, (s.ev (envL acc)).1)] else acc
def roundR (L : List Sy) (acc : List (ByteArray × Int)) : List (ByteArray × Int) := L.foldl stepR acc
def roundsR (L : List Sy) : Nat → List (ByteArray × Int)
  | 0 => []
  | k + 1 => roundR L (roundsR L k)
/-- The reference's values. -/
def knownR (L : List Sy) : List (ByteArray × Int) := roundsR L (L.length + 1)
/-- What holds of the values found so far. -/
structure RInv (L : List Sy) (acc : List (ByteArray × Int)) : Prop where
  nodup : (acc.map Prod.fst).Nodup
  sound : ∀ t n, envL acc t = some n → Kn L t = some n
theorem RInv.nil (L : List Sy) : RInv L [] := ⟨List.nodup_nil, fun t n h => by simp [envL_nil] at h⟩
theorem RInv.step {L : List Sy} {acc : List (ByteArray × Int)} (h : RInv L acc) (hn : (L.map Sy.name).Nodup) {s : Sy} (hs : s ∈ L) : RInv L (stepR acc s) := by
  unfold stepR
  split
  · exact h
  · rename_i hne
    split
    · rename_i h0
      refine ⟨?_, fun t n ht => ?_⟩
      · rw [List.map_append, List.nodup_append]
        refine ⟨h.nodup, by simp, fun a ha b hb e => hne ?_⟩
        simp only [List.map_cons, List.map_nil, List.mem_singleton] at hb
        rw [envL_has]
        obtain ⟨x, hx, rfl⟩ := List.mem_map.1 ha
        exact ⟨x, hx, e.trans hb⟩
      · rw [envL_get] at ht
        split at ht
        · rename_i e
          dsimp only at e ht
          subst e
          have he := Sy.mono h0 (f := Kn L) fun b _ m hm => h.sound b m hm
          rw [Kn_step (sfindS_mem hn hs) (by rw [he]; exact h0), he]
          exact ht
        · exact h.sound t n ht
    · exact h
theorem RInv.fold {L : List Sy} (hn : (L.map Sy.name).Nodup) : ∀ (M : List Sy) (acc : List (ByteArray × Int)), (∀ s ∈ M, s ∈ L) → RInv L acc → RInv L (M.foldl stepR acc)
  | [], _, _, h => h
  | s :: M, acc, hM, h => RInv.fold hn M (stepR acc s) (fun x hx => hM x (List.mem_cons_of_mem _ hx)) (h.step hn (hM s List.mem_cons_self))
theorem RInv.rounds {L : List Sy} (hn : (L.map Sy.name).Nodup) : ∀ k, RInv L (roundsR L k)
  | 0 => RInv.nil L
  | k + 1 => RInv.fold hn L _ (fun _ h => h) (RInv.rounds hn k)
theorem stepR_len (acc : List (ByteArray × Int)) (s : Sy) : acc.length ≤ (stepR acc s).length ∧ ((stepR acc s).length = acc.length → stepR acc s = acc) ∧ (stepR acc s).length ≤ acc.length + 1 := by
  unfold stepR
  repeat' split
  all_goals simp
theorem foldR_len : ∀ (M : List Sy) (acc : List (ByteArray × Int)), acc.length ≤ (M.foldl stepR acc).length ∧ ((M.foldl stepR acc).length = acc.length → M.foldl stepR acc = acc ∧ ∀ s ∈ M, stepR acc s = acc)
  | [], acc => by simp
  | s :: M, acc => by
    have h1 := stepR_len acc s
    have h2 := foldR_len M (stepR acc s)
    rw [List.foldl_cons]
    refine ⟨by omega, fun h => ?_⟩
    have e1 := h1.2.1 (by omega)
    rw [e1] at h2 ⊢
    obtain ⟨e2, e3⟩ := h2.2 (by rw [e1] at h; exact h)
    refine ⟨e2, fun x hx => ?_⟩
    rcases List.mem_cons.1 hx with rfl | hx
    · exact e1
    · exact e3 x hx
def Closed (L : List Sy) (acc : List (ByteArray × Int)) : Prop := ∀ s ∈ L, stepR acc s = acc
theorem Closed.fold {acc : List (ByteArray × Int)} : ∀ (M : List Sy), (∀ s ∈ M, stepR acc s = acc) → M.foldl stepR acc = acc
  | [], _ => rfl
  | s :: M, h => by rw [List.foldl_cons, h s List.mem_cons_self]; exact Closed.fold M fun x hx => h x (List.mem_cons_of_mem _ hx)
theorem rounds_closed (L : List Sy) : ∀ k, Closed L (roundsR L k) ∨ k ≤ (roundsR L k).length
  | 0 => .inr (Nat.zero_le _)
  | k + 1 => by
    have h := foldR_len L (roundsR L k)
    show Closed L (roundR L (roundsR L k)) ∨ k + 1 ≤ (roundR L (roundsR L k)).length
    unfold roundR
    by_cases he : (L.foldl stepR (roundsR L k)).length = (roundsR L k).length
    · obtain ⟨e1, e2⟩ := h.2 he
      rw [e1]; exact .inl e2
    · rcases rounds_closed L k with hc | hc
      · exact absurd (by rw [Closed.fold L hc]) he
      · exact .inr (by omega)
theorem RInv.mem {L : List Sy} {acc : List (ByteArray × Int)} (h : RInv L acc) {x : ByteArray × Int} (hx : x ∈ acc) : ∃ s ∈ L, s.name = x.1 := by
  have := (envL_has acc x.1).2 ⟨x, hx, rfl⟩
  obtain ⟨n, hn⟩ := Option.isSome_iff_exists.1 this
  obtain ⟨s, hs, _⟩ := Kn_inv (h.sound _ _ hn)
  obtain ⟨h1, h2⟩ := sfindS_some hs
  exact ⟨s, h1, h2⟩
theorem nodup_len {α : Type} [DecidableEq α] {l m : List α} (h : l.Nodup) (hs : ∀ x ∈ l, x ∈ m) : l.length ≤ m.length := by
  induction l generalizing m with
  | nil => exact Nat.zero_le _
  | cons a l ih =>
    rw [List.nodup_cons] at h
    have ha := hs a List.mem_cons_self
    have := ih (m := m.erase a) h.2 fun x hx => by
      have hx2 := hs x (List.mem_cons_of_mem _ hx)
      have hne : x ≠ a := fun e => h.1 (by rw [← e]; exact hx)
      exact (List.mem_erase_of_ne hne).2 hx2
    rw [List.length_erase_of_mem ha] at this
    have : 0 < m.length := List.length_pos_of_mem ha
    simp only [List.length_cons]
    omega
theorem RInv.len {L : List Sy} {acc : List (ByteArray × Int)} (h : RInv L acc) : acc.length ≤ L.length := by
  have := nodup_len h.nodup (m := L.map Sy.name) fun t ht => by
    obtain ⟨x, hx, rfl⟩ := List.mem_map.1 ht
    obtain ⟨s, hs, e⟩ := h.mem hx
    exact e ▸ List.mem_map_of_mem hs
  simpa using this
/-- The reference's values are the values. -/
theorem knownR_env {L : List Sy} (hn : (L.map Sy.name).Nodup) : envL (knownR L) = Kn L := by
  have hi : RInv L (knownR L) := RInv.rounds hn _
  have hc : Closed L (knownR L) := (rounds_closed L (L.length + 1)).resolve_right fun h => by have h2 : (roundsR L (L.length + 1)).length ≤ L.length := hi.len; omega
  have hk : ∀ k t n, kenv L k t = some n → ∃ m, envL (knownR L) t = some m := by
    intro k
    induction k with
    | zero => intro t n h; cases h
    | succ k ih =>
      intro t n h
      unfold kenv at h
      split at h
      · cases h
      · rename_i s hs
        split at h
        · rename_i h0
          obtain ⟨h1, rfl⟩ := sfindS_some hs
          have hst := hc s h1
          unfold stepR at hst
          split at hst
          · rename_i hh; exact Option.isSome_iff_exists.1 hh
          · split at hst
            · exact absurd (congrArg List.length hst) (by simp)
            · rename_i h3
              refine absurd ?_ h3
              rw [Sy.mono h0 (f := envL (knownR L)) fun b hb m hm => by
                obtain ⟨p, hp⟩ := ih b m hm
                have e := hi.sound b p hp
                rw [kenv_Kn hm] at e; cases e
                exact hp]
              exact h0
        · cases h
  funext t
  apply Option.ext
  intro n
  constructor
  · exact hi.sound t n
  · intro h
    obtain ⟨k, hk2⟩ := Kn_iff.1 h
    obtain ⟨m, hm⟩ := hk k t n hk2
    have := hi.sound t m hm
    rw [h] at this; cases this
    exact hm
theorem knownR_nodup {L : List Sy} (hn : (L.map Sy.name).Nodup) : ((knownR L).map Prod.fst).Nodup := (RInv.rounds hn _).nodup
theorem knownR_len {L : List Sy} (hn : (L.map Sy.name).Nodup) : (knownR L).length ≤ L.length := (RInv.rounds hn _).len
end Go.Proofs.YtnjpfhihbjihbaaGreatDoor

/- Definitions of symbols. No program in sight. -/
namespace Go.Proofs.YtnjpfhihbjihbaaGreatDoor
open Go.RowKit Go.Sort

/-- A definition: of the expression of a line, or of the value. -/
structure Dfn where
  name : ByteArray
  n : Int
  text : ByteArray
  here : Int
  line : Int
def Dfn.small (d : Dfn) : Prop := d.name.size ≤ 50 ∧ d.text.size ≤ 100 ∧ -2147483648 ≤ d.n ∧ d.n < 2147483648 ∧ -2147483648 ≤ d.here ∧ d.here < 2147483648
instance (d : Dfn) : Decidable d.small := by unfold Dfn.small; exact inferInstance
theorem Dfn.cases (d : Dfn) : d.small ∨ (50 < d.name.size ∨ d.name.size ≤ 50 ∧ 100 < d.text.size ∨ d.name.size ≤ 50 ∧ d.text.size ≤ 100 ∧ d.n < -2147483648 ∨ d.name.size ≤ 50 ∧ d.text.size ≤ 100 ∧ -2147483648 ≤ d.n ∧ 2147483648 ≤ d.n ∨
    d.name.size ≤ 50 ∧ d.text.size ≤ 100 ∧ -2147483648 ≤ d.n ∧ d.n < 2147483648 ∧ d.here < -2147483648 ∨ d.name.size ≤ 50 ∧ d.text.size ≤ 100 ∧ -2147483648 ≤ d.n ∧ d.n < 2147483648 ∧ -2147483648 ≤ d.here ∧ 2147483648 ≤ d.here) := by
  unfold Dfn.small; omega
/-- The symbol of a definition. -/
noncomputable def symD (d : Dfn) : Option Sy :=
  if d.small then
    if d.text.data.toList = [] then some ⟨d.name, d.n, none, d.here, d.line⟩
    else match toksP d.text with
      | .error _ => none
      | .ok l => if (parseR l.dropLast).1 = 0 then some ⟨d.name, d.n, (parseR l.dropLast).2, d.here, d.line⟩ else none
  else none
theorem symD_form {d : Dfn} {s : Sy} (h : symD d = some s) : ∃ ex, s = ⟨d.name, d.n, ex, d.here, d.line⟩ := by
  unfold symD at h
  repeat' split at h
  all_goals first | (cases h; exact ⟨_, rfl⟩) | cases h
theorem symD_ok {d : Dfn} {s : Sy} (h : symD d = some s) : SyOk s := by
  unfold symD at h
  split at h
  · rename_i hs
    unfold Dfn.small at hs
    split at h
    · cases h
      exact ⟨by dsimp only; omega, by dsimp only; omega, fun x hx => by cases hx⟩
    · split at h
      · cases h
      · rename_i l hl
        split at h
        · cases h
          refine ⟨by dsimp only; omega, by dsimp only; omega, fun x hx => ?_⟩
          dsimp only at hx
          have hok := toksP_ok hl
          have hg := parseR_good hok.1.sub hx
          have hn := nodes_le (l := l.dropLast) hok.1.sub
          rw [hx] at hn
          simp only [oNodes, List.length_dropLast] at hn
          exact ⟨hg.1, by omega⟩
        · cases h
  · cases h
/-- The symbol as the program keeps it. -/
def Sy.norm (s : Sy) : Sy := match s.ex with | none => ⟨s.name, s.n, none, 0, s.line⟩ | some x => ⟨s.name, 0, some x, s.here, s.line⟩
theorem norm_name (s : Sy) : s.norm.name = s.name := by unfold Sy.norm; split <;> rfl
theorem norm_line (s : Sy) : s.norm.line = s.line := by unfold Sy.norm; split <;> rfl
theorem norm_ev (s : Sy) (e : Env) : s.norm.ev e = s.ev e := by
  obtain ⟨a, b, c, d, e⟩ := s
  cases c <;> rfl
theorem norm_ex (s : Sy) : s.norm.ex = s.ex := by
  obtain ⟨a, b, c, d, e⟩ := s
  cases c <;> rfl
theorem norm_syms (s : Sy) : s.norm.syms = s.syms := by unfold Sy.syms; rw [norm_ex]
theorem norm_ok {s : Sy} (h : SyOk s) : SyOk s.norm := by
  obtain ⟨a, b, c, d, e⟩ := s
  obtain ⟨h1, h2, h3⟩ := h
  cases c with
  | none => exact ⟨h1, by show -2147483648 ≤ (0 : Int) ∧ (0 : Int) ≤ 2147483647; decide, fun x hx => by cases hx⟩
  | some y => exact ⟨by show -2147483648 ≤ (0 : Int) ∧ (0 : Int) ≤ 2147483647; decide, h2, h3⟩
theorem norm_find (L : List Sy) (t : ByteArray) : sfindS (L.map Sy.norm) t = (sfindS L t).map Sy.norm := by
  induction L with
  | nil => rfl
  | cons a l ih =>
    rw [List.map_cons]
    unfold sfindS
    rw [norm_name, ih]
    split <;> rfl
theorem norm_kenv (L : List Sy) : ∀ k, kenv (L.map Sy.norm) k = kenv L k
  | 0 => rfl
  | k + 1 => by
    funext t
    unfold kenv
    rw [norm_find, norm_kenv L k]
    rcases sfindS L t with _ | s
    · rfl
    · simp only [Option.map_some, norm_ev]
theorem norm_Kn (L : List Sy) : Kn (L.map Sy.norm) = Kn L := by
  funext t
  apply Option.ext
  intro n
  rw [Kn_iff, Kn_iff]
  simp only [norm_kenv]
theorem norm_Dep (L : List Sy) (a b : ByteArray) : Dep (L.map Sy.norm) a b ↔ Dep L a b := by
  unfold Dep
  rw [norm_find, norm_find]
  rcases sfindS L a with _ | s
  · simp
  · rcases sfindS L b with _ | s'
    · simp
    · simp [norm_syms]
theorem norm_Leads (L : List Sy) (a b : ByteArray) : Leads (L.map Sy.norm) a b ↔ Leads L a b := by
  constructor
  · intro h
    induction h with
    | one d => exact .one ((norm_Dep L _ _).1 d)
    | more _ d ih => exact .more ih ((norm_Dep L _ _).1 d)
  · intro h
    induction h with
    | one d => exact .one ((norm_Dep L _ _).2 d)
    | more _ d ih => exact .more ih ((norm_Dep L _ _).2 d)
theorem norm_names (L : List Sy) : (L.map Sy.norm).map Sy.name = L.map Sy.name := by
  rw [List.map_map]
  exact List.map_congr_left fun s _ => norm_name s
/-- The table of some definitions; none if one of them has no symbol or there are too many. -/
noncomputable def stepD (L : List Sy) (d : Dfn) : Option (List Sy) := (symD d).map fun s => if (sfindS L s.name).isSome then L else L ++ [s]
noncomputable def foldD : List Sy → List Dfn → Option (List Sy)
  | L, [] => some L
  | L, d :: l => match stepD L d with | none => none | some M => foldD M l
noncomputable def tableD (l : List Dfn) : Option (List Sy) := if 20 < l.length then none else foldD [] l
structure TabOk (L : List Sy) : Prop where
  nodup : (L.map Sy.name).Nodup
  ok : ∀ s ∈ L, SyOk s
theorem TabOk.nil : TabOk [] := ⟨List.nodup_nil, fun s h => by cases h⟩
theorem TabOk.step {L M : List Sy} {d : Dfn} (h : TabOk L) (hs : stepD L d = some M) : TabOk M ∧ M.length ≤ L.length + 1 := by
  unfold stepD at hs
  rcases hd : symD d with _ | s
  · rw [hd] at hs; cases hs
  · rw [hd, Option.map_some, Option.some.injEq] at hs
    split at hs
    · subst hs; exact ⟨h, by omega⟩
    · rename_i hn
      subst hs
      refine ⟨⟨?_, fun x hx => ?_⟩, by simp⟩
      · rw [List.map_append, List.nodup_append]
        refine ⟨h.nodup, by simp, fun a ha b hb e => ?_⟩
        simp only [List.map_cons, List.map_nil, List.mem_singleton] at hb
        obtain ⟨y, hy, rfl⟩ := List.mem_map.1 ha
        apply hn
        rw [← hb, ← e, sfindS_mem h.nodup hy]; rfl
      · rcases List.mem_append.1 hx with hx | hx
        · exact h.ok x hx
        · rw [List.mem_singleton] at hx; subst hx; exact symD_ok hd
theorem TabOk.fold : ∀ (l : List Dfn) (L M : List Sy), TabOk L → foldD L l = some M → TabOk M ∧ M.length ≤ L.length + l.length
  | [], L, M, h, hf => by cases hf; exact ⟨h, by simp⟩
  | d :: l, L, M, h, hf => by
    unfold foldD at hf
    split at hf
    · cases hf
    · rename_i N hN
      have h1 := h.step hN
      have h2 := TabOk.fold l N M h1.1 hf
      exact ⟨h2.1, by simp only [List.length_cons]; omega⟩
theorem tableD_ok {l : List Dfn} {L : List Sy} (h : tableD l = some L) : TabOk L ∧ L.length ≤ 20 := by
  unfold tableD at h
  split at h
  · cases h
  · have := TabOk.fold l [] L .nil h
    refine ⟨this.1, ?_⟩
    have := this.2
    simp only [List.length_nil] at this
    omega
theorem foldD_snoc : ∀ (L : List Sy) (l : List Dfn) (d : Dfn), foldD L (l ++ [d]) = (foldD L l).bind fun M => stepD M d
  | L, [], d => by
    show foldD L [d] = stepD L d
    unfold foldD
    rcases stepD L d with _ | M
    · rfl
    · show foldD M [] = some M
      unfold foldD; rfl
  | L, a :: l, d => by
    show foldD L (a :: (l ++ [d])) = _
    unfold foldD
    rcases stepD L a with _ | M
    · rfl
    · exact foldD_snoc M l d
theorem foldD_none : ∀ (L : List Sy) (l m : List Dfn), foldD L l = none → foldD L (l ++ m) = none
  | L, [], m, h => by cases h
  | L, a :: l, m, h => by
    show foldD L (a :: (l ++ m)) = _
    unfold foldD at h ⊢
    rcases hs : stepD L a with _ | M
    · rfl
    · rw [hs] at h; exact foldD_none M l m h
end Go.Proofs.YtnjpfhihbjihbaaGreatDoor

/- The reference's lexer: letters, digits, runs. -/
namespace Go.Proofs.YtnjpfhihbjihbaaGreatDoor
open Go.RowKit Go.Sort

theorem isLet_iff (c : UInt8) : isLet c = decide ((97 ≤ (c.toNat : Int) ∧ (c.toNat : Int) ≤ 122) ∨ (65 ≤ (c.toNat : Int) ∧ (c.toNat : Int) ≤ 90) ∨ (c.toNat : Int) = 95 ∨ (c.toNat : Int) = 46 ∨ (c.toNat : Int) = 63 ∨ (c.toNat : Int) = 64) := by
  have h : ∀ k : UInt8, (c == k) = decide ((c.toNat : Int) = k.toNat) := fun k => by
    by_cases e : c = k
    · subst e; simp
    · have e2 : ¬ c.toNat = k.toNat := fun h => e (UInt8.toNat_inj.1 h)
      rw [beq_eq_false_iff_ne.2 e, eq_comm, decide_eq_false_iff_not]; omega
  unfold isLet
  rw [h, h, h, h, Bool.eq_iff_iff]
  simp only [Bool.or_eq_true, decide_eq_true_eq]
  show _ ↔ _
  have e1 : (95 : UInt8).toNat = 95 := rfl
  have e2 : (46 : UInt8).toNat = 46 := rfl
  have e3 : (63 : UInt8).toNat = 63 := rfl
  have e4 : (64 : UInt8).toNat = 64 := rfl
  rw [e1, e2, e3, e4]
  omega

set_option maxHeartbeats 400000 in
theorem letter16_any (c : UInt8) (w : World) :
    Calls Tryz.prog 135 #[.int .u8 (c.toNat : Int)] w fun e w' => e = .returned (.bool (isLet c)) ∧ w = w' := by
  rw [isLet_iff]
  have h0 : (c.toNat : Int) ≤ 255 := by have := c.toNat_lt; omega
  generalize (c.toNat : Int) = n at h0
  go_enter Tryz.func135, Tryz.ntmps135
  go_wp2
  all_goals
    go_ret
    refine ⟨?_, rfl⟩
    simp
    try (rw [Bool.eq_iff_iff]; simp)
    try omega

set_option maxHeartbeats 400000 in
theorem digit16_any (c : UInt8) (w : World) :
    Calls Tryz.prog 93 #[.int .u8 (c.toNat : Int)] w fun e w' => e = .returned (.bool (isDig c)) ∧ w = w' := by
  have hd : isDig c = decide (48 ≤ (c.toNat : Int) ∧ (c.toNat : Int) ≤ 57) := by
    unfold isDig; rw [decide_eq_decide]; omega
  rw [hd]
  generalize (c.toNat : Int) = n
  go_enter Tryz.func93, Tryz.ntmps93
  go_wp2
  all_goals
    go_ret
    refine ⟨?_, rfl⟩
    simp
    try (rw [Bool.eq_iff_iff]; simp)
    try omega

set_option maxHeartbeats 400000 in
theorem run16_any (s : ByteArray) (i : Nat) (w : World) (hi : i ≤ s.size) (hs : s.size ≤ 1000000) :
    Calls Tryz.prog 92 #[.string s, .int .i64 i] w fun e w' => e = .returned (.int .i64 (runEnd s i : Nat)) ∧ w = w' := by
  obtain ⟨R, hR⟩ : ∃ R, runEnd s i = R := ⟨_, rfl⟩
  rw [hR]
  have HR := Lib.hid hR; clear hR
  go_enter Tryz.func92, Tryz.ntmps92
  go_wp2_with fail
  go_loopw [1] (fun v wr => ∃ k : Nat, k ≤ s.size ∧ v = .int .i64 k ∧ Hid (runEnd s k = R) ∧ wr = w) (fun v _ => s.size - (intOf v).toNat)
  case atStart => exact ⟨i, hi, rfl, HR, rfl⟩
  case round =>
    obtain ⟨k, hk, rfl, HK, rfl⟩ := hrel
    by_cases hlt : k < s.size
    · have hi0 : (0 : Int) ≤ (k : Int) := by omega
      have hi1 : (k : Int) < (s.size : Int) := by omega
      have hrg := runEnd_go s k hlt
      have hrn := runEnd_no s k hlt
      have hl := fun w => letter16_any s[k] w
      have hd := fun w => digit16_any s[k] w
      have hw : isW s[k] = (isLet s[k] || isDig s[k]) := rfl
      rcases hb : isLet s[k] with _ | _
      · rcases hb2 : isDig s[k] with _ | _
        · rw [hb] at hl; rw [hb2] at hd; rw [hb, hb2] at hw
          have Hn := Lib.hid (hrn hw); clear hrg hrn hw hb hb2
          have HL := Lib.hid hl; clear hl
          have HD := Lib.hid hd; clear hd
          go_wp2_with fail
          refine (HL.out _).mono ?_
          rintro e w1 ⟨rfl, rfl⟩
          go_wp2_with fail
          refine (HD.out _).mono ?_
          rintro e w1 ⟨rfl, rfl⟩
          go_wp2_with fail
          go_ret
          exact ⟨by rw [← HK.out, Hn.out]; rfl, rfl⟩
        · rw [hb] at hl; rw [hb2] at hd; rw [hb, hb2] at hw
          have Hn := Lib.hid (hrg hw); clear hrg hrn hw hb hb2
          have HL := Lib.hid hl; clear hl
          have HD := Lib.hid hd; clear hd
          go_wp2_with fail
          refine (HL.out _).mono ?_
          rintro e w1 ⟨rfl, rfl⟩
          go_wp2_with fail
          refine (HD.out _).mono ?_
          rintro e w1 ⟨rfl, rfl⟩
          go_wp2_with fail
          go_roundw
          case rel => exact ⟨k + 1, by omega, by go_num, Lib.hid (by rw [← Hn.out]; exact HK.out), by trivial⟩
          case measure => simp [intOf]; omega
      · rw [hb] at hl; rw [hb] at hw
        have Hn := Lib.hid (hrg (by rw [hw]; rfl)); clear hrg hrn hw hb hd
        have HL := Lib.hid hl; clear hl
        go_wp2_with fail
        refine (HL.out _).mono ?_
        rintro e w1 ⟨rfl, rfl⟩
        go_wp2_with fail
        go_roundw
        case rel => exact ⟨k + 1, by omega, by go_num, Lib.hid (by rw [← Hn.out]; exact HK.out), by trivial⟩
        case measure => simp [intOf]; omega
    · have hno := Lib.hid (runEnd_out s k hlt)
      obtain rfl : k = s.size := by omega
      go_wp2_with fail
      go_ret
      exact ⟨by rw [← HK.out, hno.out]; rfl, rfl⟩
end Go.Proofs.YtnjpfhihbjihbaaGreatDoor
