/- For all definitions, Faults returns the faults of the reference, one for each symbol without a value: SymbolsFaults returns true; no condition beyond the statement's own. -/
import Derived.Test.YtnjpfhihbjihbaaGreatDoorCards
import Derived.Test.YtnjpfhihbjihbaaGreatDoorS19
import Derived.Test.YtnjpfhihbjihbaaGreatDoorS29
import Derived.Test.YtnjpfhihbjihbaaGreatDoorS33
import Derived.Test.YtnjpfhihbjihbaaGreatDoorS34
import Derived.Test.YtnjpfhihbjihbaaGreatDoorS36
import Derived.Test.YtnjpfhihbjihbaaGreatDoorS39
import Derived.Test.YtnjpfhihbjihbaaGreatDoorS40
import Derived.Test.YtnjpfhihbjihbaaGreatDoorS42
import Derived.Test.YtnjpfhihbjihbaaGreatDoorTie
import Derived.BigQuiet
import Derived.Deep.DeepHandedRow
import Derived.Deep.QuietTactic
import Derived.Deep.RegionHeld3
import Derived.Lib.LaidTab
import Derived.Lib.Small
import Derived.Lib.SmallJoins
import Derived.OpenShut
import Derived.ProofKit
import Derived.Shelf.SlSortCmp.Insertion
import Derived.ShutString
import Derived.Sort.LotA
/- The names of the symbols without a value, in the order of their lines: both ways of sorting give the same. No program in sight. -/
namespace Go.Proofs.YtnjpfhihbjihbaaGreatDoor
open Go.RowKit Go.Sort

open Go.Sort
/-- The line of the symbol with a name. -/
def lineOf (L : List Sy) (t : List UInt8) : Int := match sfindS L ⟨t.toArray⟩ with | none => 0 | some s => s.line
/-- By the line alone. -/
def cfLine (L : List Sy) (a b : List UInt8) : Int := Lib.compareInt (lineOf L a) (lineOf L b)
/-- By the line, then by the name. -/
def ltF (L : List Sy) (a b : List UInt8) : Bool := decide (lineOf L a < lineOf L b ∨ lineOf L a = lineOf L b ∧ a < b)
theorem byte_tri (a b : List UInt8) : a < b ∨ a = b ∨ b < a := by
  by_cases h : a < b
  · exact .inl h
  · by_cases k : b < a
    · exact .inr (.inr k)
    · exact .inr (.inl (List.le_antisymm (List.not_lt.1 k) (List.not_lt.1 h)))
theorem ltF_swo (L : List Sy) : SWO (ltF L) where
  irrefl x := by
    unfold ltF
    rw [decide_eq_false_iff_not]
    rintro (h | ⟨_, h⟩)
    · omega
    · exact List.lt_irrefl _ h
  trans x y z h k := by
    unfold ltF at *
    rw [decide_eq_true_eq] at *
    rcases h with h | ⟨h, h2⟩
    · rcases k with k | ⟨k, k2⟩
      · exact .inl (by omega)
      · exact .inl (by omega)
    · rcases k with k | ⟨k, k2⟩
      · exact .inl (by omega)
      · exact .inr ⟨by omega, List.lt_trans h2 k2⟩
  ntrans x y z h k := by
    unfold ltF at *
    rw [decide_eq_false_iff_not] at *
    rintro (h3 | ⟨h3, h4⟩)
    · rcases Int.lt_or_le (lineOf L x) (lineOf L y) with h5 | h5
      · exact h (.inl h5)
      · exact k (.inl (by omega))
    · rcases Int.lt_or_le (lineOf L x) (lineOf L y) with h5 | h5
      · exact h (.inl h5)
      · rcases Int.lt_or_le (lineOf L y) (lineOf L z) with h6 | h6
        · exact k (.inl h6)
        · rcases byte_tri x y with h7 | h7 | h7
          · exact h (.inr ⟨by omega, h7⟩)
          · exact k (.inr ⟨by omega, by rw [← h7]; exact h4⟩)
          · exact k (.inr ⟨by omega, List.lt_trans h7 h4⟩)
theorem ltF_tri (L : List Sy) (a b : List UInt8) (h : ltF L a b = false) (k : ltF L b a = false) : a = b := by
  unfold ltF at *
  rw [decide_eq_false_iff_not] at *
  have e : lineOf L a = lineOf L b := by
    rcases Int.lt_trichotomy (lineOf L a) (lineOf L b) with h1 | h1 | h1
    · exact absurd (.inl h1) h
    · exact h1
    · exact absurd (.inl h1) k
  rcases byte_tri a b with h1 | h1 | h1
  · exact absurd (.inr ⟨e, h1⟩) h
  · exact h1
  · exact absurd (.inr ⟨e.symm, h1⟩) k
/-! Sorting by the line alone, from an order by names: the same as sorting by both. -/
section
variable {α : Type} [Inhabited α]
theorem insInner_same (lt lt' : α → α → Bool) : ∀ (j : Nat) (d : Array α), j < d.size → (∀ q, q < j → lt d[j]! d[q]! = lt' d[j]! d[q]!) → insInner lt 0 j d = insInner lt' 0 j d
  | 0, d, _, _ => by unfold insInner; rfl
  | j + 1, d, hj, h => by
    have e := h j (Nat.lt_succ_self j)
    cases hl : lt d[j + 1]! d[j]! with
    | false => rw [insInner_stop lt 0 (j + 1) d (.inr hl), insInner_stop lt' 0 (j + 1) d (.inr (by rw [show j + 1 - 1 = j from rfl, ← e]; exact hl))]
    | true =>
      rw [insInner_go lt 0 (j + 1) d (Nat.succ_pos _) hl, insInner_go lt' 0 (j + 1) d (Nat.succ_pos _) (by rw [show j + 1 - 1 = j from rfl, ← e]; exact hl)]
      refine insInner_same lt lt' j _ (by rw [Go.Sort.swp_size]; omega) fun q hq => ?_
      rw [show j + 1 - 1 = j from rfl, swp_right d (j + 1) j (by omega), swp_other d (j + 1) j q (by omega) (by omega)]
      exact h q (by omega)
theorem insInner_keep (lt : α → α → Bool) : ∀ (j : Nat) (d : Array α), j < d.size → (insInner lt 0 j d).size = d.size ∧ (∀ q, j < q → (insInner lt 0 j d)[q]! = d[q]!) ∧ ∀ q, q ≤ j → ∃ p, p ≤ j ∧ (insInner lt 0 j d)[q]! = d[p]!
  | 0, d, _ => by unfold insInner; exact ⟨rfl, fun _ _ => rfl, fun q hq => ⟨q, hq, rfl⟩⟩
  | j + 1, d, hj => by
    cases hl : lt d[j + 1]! d[j]! with
    | false => rw [insInner_stop lt 0 (j + 1) d (.inr hl)]; exact ⟨rfl, fun _ _ => rfl, fun q hq => ⟨q, hq, rfl⟩⟩
    | true =>
      rw [insInner_go lt 0 (j + 1) d (Nat.succ_pos _) hl, show j + 1 - 1 = j from rfl]
      obtain ⟨h1, h2, h3⟩ := insInner_keep lt j (swp d (j + 1) j) (by rw [Go.Sort.swp_size]; omega)
      refine ⟨h1.trans (Go.Sort.swp_size ..), fun q hq => ?_, fun q hq => ?_⟩
      · rw [h2 q (by omega), swp_other d (j + 1) j q (by omega) (by omega)]
      · by_cases hqj : q = j + 1
        · subst hqj
          exact ⟨j, by omega, by rw [h2 _ (by omega), swp_left d (j + 1) j hj (by omega)]⟩
        · obtain ⟨p, hp, e⟩ := h3 q (by omega)
          by_cases hpj : p = j
          · subst hpj; exact ⟨p + 1, by omega, by rw [e, swp_right d (p + 1) p (by omega)]⟩
          · exact ⟨p, by omega, by rw [e, swp_other d (j + 1) j p (by omega) hpj]⟩
theorem insOuter_same (lt lt' : α → α → Bool) (d : Array α) (h : ∀ i q, q < i → i < d.size → lt d[i]! d[q]! = lt' d[i]! d[q]!) : ∀ (n i : Nat) (dk : Array α), d.size - i = n → dk.size = d.size → (∀ q, i ≤ q → dk[q]! = d[q]!) → (∀ q, q < i → ∃ p, p < i ∧ dk[q]! = d[p]!) → insOuter lt 0 d.size i dk = insOuter lt' 0 d.size i dk
  | 0, i, dk, hn, _, _, _ => by rw [insOuter_stop _ _ _ _ _ (by omega), insOuter_stop _ _ _ _ _ (by omega)]
  | n + 1, i, dk, hn, hs, hu, hl => by
    have hi : i < d.size := by omega
    rw [insOuter_go _ _ _ _ _ hi, insOuter_go _ _ _ _ _ hi, insInner_same lt lt' i dk (by omega) (fun q hq => by
      obtain ⟨p, hp, e⟩ := hl q hq
      rw [e, hu i (Nat.le_refl _)]
      exact h i p hp hi)]
    obtain ⟨h1, h2, h3⟩ := insInner_keep lt' i dk (by omega)
    refine insOuter_same lt lt' d h n (i + 1) _ (by omega) (h1.trans hs) (fun q hq => by rw [h2 q (by omega), hu q (by omega)]) (fun q hq => ?_)
    obtain ⟨p, hp, e⟩ := h3 q (by omega)
    by_cases hpi : p = i
    · subst hpi; exact ⟨p, by omega, by rw [e, hu p (Nat.le_refl _)]⟩
    · obtain ⟨p', hp', e'⟩ := hl p (by omega)
      exact ⟨p', by omega, by rw [e, e']⟩
theorem insertion_same (lt lt' : α → α → Bool) (d : Array α) (h : ∀ i q, q < i → i < d.size → lt d[i]! d[q]! = lt' d[i]! d[q]!) : insertionSort lt d 0 d.size = insertionSort lt' d 0 d.size := by
  unfold insertionSort
  exact insOuter_same lt lt' d h _ 1 d rfl rfl (fun _ _ => rfl) (fun q hq => ⟨q, hq, rfl⟩)
theorem sortedIn_list {lt : α → α → Bool} {d : Array α} (h : SortedIn lt 0 d.size d) : d.toList.Pairwise fun a b => lt b a = false := by
  rw [List.pairwise_iff_getElem]
  intro i j hi hj hij
  have := h i j (Nat.zero_le _) hij (by simpa using hj)
  rw [getElem!_pos d i (by simpa using hi), getElem!_pos d j (by simpa using hj)] at this
  simpa using this
end
theorem sortP_size {α : Type} [Inhabited α] (lt : α → α → Bool) (b a : Nat) (d : Array α) : (insertionSort lt d a b).size = d.size := by
  have hin : ∀ (j : Nat) (d : Array α), (insInner lt a j d).size = d.size := by
    intro j
    induction j with
    | zero => intro d; unfold insInner; rfl
    | succ j ih =>
      intro d
      unfold insInner
      split
      · rw [ih, Go.Sort.swp_size]
      · rfl
  have hout : ∀ (n i : Nat) (d : Array α), b - i = n → (insOuter lt a b i d).size = d.size := by
    intro n
    induction n with
    | zero => intro i d h; rw [insOuter_stop _ _ _ _ _ (by omega)]
    | succ n ih => intro i d h; rw [insOuter_go _ _ _ _ _ (by omega), ih _ _ (by omega), hin]
  unfold insertionSort
  exact hout _ _ _ rfl
/-- The order in which both sort. -/
def SortedF (L : List Sy) (R : List (List UInt8)) : Prop := R.Pairwise fun a b => ltF L b a = false
theorem SortedF.uniq {L : List Sy} {R R' : List (List UInt8)} (h : SortedF L R) (h' : SortedF L R') (hp : R.Perm R') : R = R' :=
  List.Perm.eq_of_pairwise (fun a b _ _ h1 h2 => ltF_tri L a b h2 h1) h h' hp
/-- What the program does: the names in their order, sorted by the lines. -/
def sortP (L : List Sy) (l : List (List UInt8)) : List (List UInt8) := (insertionSort (Go.Proofs.ltOf (cfLine L)) l.toArray 0 l.length).toList
theorem sortP_spec (L : List Sy) (l : List (List UInt8)) (hl : l.Pairwise fun a b => a < b) : SortedF L (sortP L l) ∧ (sortP L l).Perm l := by
  have hs : l.toArray.size = l.length := by simp
  have e : insertionSort (Go.Proofs.ltOf (cfLine L)) l.toArray 0 l.toArray.size = insertionSort (ltF L) l.toArray 0 l.toArray.size := by
    refine insertion_same _ _ _ fun i q hq hi => ?_
    rw [hs] at hi
    have hlt : l[q]'(by omega) < l[i] := (List.pairwise_iff_getElem.1 hl) q i (by omega) hi hq
    rw [getElem!_pos l.toArray i (by simpa using hi), getElem!_pos l.toArray q (by simp; omega)]
    simp only [List.getElem_toArray]
    unfold Go.Proofs.ltOf cfLine ltF Lib.compareInt
    apply decide_eq_decide.2
    have hno : ¬ l[i] < l[q]'(by omega) := fun h => List.lt_irrefl _ (List.lt_trans h hlt)
    simp only [hno, and_false, or_false]
    split
    · simp_all
    · split
      · simp_all
      · simp_all
  have hh := insertionSort_holds (lt := ltF L) (ltF_swo L) l.toArray 0 l.toArray.size (Nat.zero_le _) (Nat.le_refl _)
  unfold sortP
  rw [← hs, e]
  generalize insertionSort (ltF L) l.toArray 0 l.toArray.size = r at hh
  obtain ⟨⟨h1, _, h3⟩, h4⟩ := hh
  rw [← h1] at h4
  refine ⟨sortedIn_list h4, ?_⟩
  rw [← h1] at h3
  have e1 : (r.extract 0 r.size).toList = r.toList := by simp
  have e2 : (l.toArray.extract 0 r.size).toList = l := by rw [h1]; simp
  rw [e1, e2] at h3
  exact h3
/-- What the reference does with one more. -/
theorem insF_spec {L : List Sy} {R : List (List UInt8)} {t : List UInt8} {a : Nat} (h : SortedF L R) (ha : a ≤ R.length) (hhi : ∀ x ∈ R.drop a, ltF L t x = true) (hlo : a = 0 ∨ ∃ x, R[a - 1]? = some x ∧ ltF L t x = false) :
    SortedF L (R.take a ++ t :: R.drop a) ∧ (R.take a ++ t :: R.drop a).Perm (t :: R) := by
  have hS := ltF_swo L
  have hR : (R.take a ++ R.drop a).Pairwise fun a b => ltF L b a = false := by rw [List.take_append_drop]; exact h
  rw [List.pairwise_append] at hR
  refine ⟨?_, ?_⟩
  · unfold SortedF
    rw [List.pairwise_append, List.pairwise_cons]
    refine ⟨hR.1, ⟨fun x hx => ?_, hR.2.1⟩, fun x hx y hy => ?_⟩
    · cases hc : ltF L x t with
      | false => rfl
      | true =>
        have := hS.trans _ _ _ (hhi x hx) hc
        rw [hS.irrefl] at this
        exact this.symm
    · rcases List.mem_cons.1 hy with rfl | hy
      · rcases hlo with rfl | ⟨z, hz, hzt⟩
        · simp at hx
        · obtain ⟨i, hi⟩ := List.mem_iff_getElem?.1 hx
          have hia : i < a := by
            have := (List.getElem?_eq_some_iff.1 hi).1
            rw [List.length_take] at this
            omega
          rw [List.getElem?_take_of_lt hia] at hi
          by_cases hie : i = a - 1
          · subst hie
            rw [hz] at hi
            cases hi
            exact hzt
          · refine hS.ntrans _ _ _ hzt ?_
            obtain ⟨q1, e1⟩ := List.getElem?_eq_some_iff.1 hi
            obtain ⟨q2, e2⟩ := List.getElem?_eq_some_iff.1 hz
            rw [← e1, ← e2]
            exact (List.pairwise_iff_getElem.1 h) i (a - 1) q1 q2 (by omega)
      · exact hR.2.2 x hx y hy
  · have := List.perm_middle (a := t) (l₁ := R.take a) (l₂ := R.drop a)
    rw [List.take_append_drop] at this
    exact this
/-- The symbols without a value. -/
noncomputable def missN (L : List Sy) (ns : List (List UInt8)) : List (List UInt8) := ns.filter fun t => !(Kn L ⟨t.toArray⟩).isSome
def namesN (L : List Sy) : List (List UInt8) := L.map fun s => s.name.data.toList
theorem sortL_strict {l : List (List UInt8)} (h : l.Nodup) : (sortL l).Pairwise fun a b => a < b := by
  have h1 : (sortL l).Pairwise fun a b => a ≤ b := by
    unfold sortL
    have := List.pairwise_mergeSort (le := fun (x y : List UInt8) => decide (x ≤ y)) (fun a b c h k => by rw [decide_eq_true_eq] at *; exact List.le_trans h k) (fun a b => by
      rw [Bool.or_eq_true, decide_eq_true_eq, decide_eq_true_eq]; exact List.le_total a b) l
    exact this.imp fun h => of_decide_eq_true h
  have h2 : (sortL l).Nodup := (List.mergeSort_perm l _).nodup_iff.2 h
  exact (h1.and h2).imp fun ⟨h, k⟩ => by
    rcases byte_tri _ _ with q | q | q
    · exact q
    · exact absurd q k
    · exact absurd (List.le_antisymm h (List.not_lt.1 (fun h2 => List.lt_irrefl _ (List.lt_trans h2 q)))) k
theorem missN_strict {L : List Sy} (h : (L.map Sy.name).Nodup) : (missN L (sortL (namesN L))).Pairwise fun a b => a < b := by
  refine List.Pairwise.filter _ (sortL_strict ?_)
  unfold namesN
  rw [List.nodup_iff_pairwise_ne, List.pairwise_map] at *
  exact h.imp fun hne e => hne (ByteArray.ext (Array.ext' e))
/-- Both sort the same. -/
theorem faults_same {L : List Sy} (h : (L.map Sy.name).Nodup) {R : List (List UInt8)} (hR : SortedF L R) (hp : R.Perm (missN L (namesN L))) : sortP L (missN L (sortL (namesN L))) = R := by
  obtain ⟨h1, h2⟩ := sortP_spec L _ (missN_strict h)
  refine h1.uniq hR (h2.trans (List.Perm.trans ?_ hp.symm))
  unfold missN
  exact (List.mergeSort_perm _ _).filter _
theorem miss_count {L : List Sy} (hn : (L.map Sy.name).Nodup) : (missN L (namesN L)).length + (knownR L).length = L.length := by
  have hperm : ((L.filter fun s => (Kn L s.name).isSome).map Sy.name).Perm ((knownR L).map Prod.fst) := by
    refine (List.perm_ext_iff_of_nodup ?_ (knownR_nodup hn)).2 fun t => ?_
    · rw [List.nodup_iff_pairwise_ne, List.pairwise_map] at hn ⊢
      exact hn.filter _
    · have hk := envL_has (knownR L) t
      rw [knownR_env hn] at hk
      have e2 : t ∈ (knownR L).map Prod.fst ↔ (Kn L t).isSome = true := by
        rw [hk]
        simp only [List.mem_map]
      rw [e2]
      simp only [List.mem_map, List.mem_filter]
      constructor
      · rintro ⟨s, ⟨_, hs⟩, rfl⟩; exact hs
      · intro h
        obtain ⟨n, hn2⟩ := Option.isSome_iff_exists.1 h
        obtain ⟨k, hk2⟩ := Kn_iff.1 hn2
        have : ∃ s, sfindS L t = some s := by
          cases k with
          | zero => cases hk2
          | succ k =>
            unfold kenv at hk2
            split at hk2
            · cases hk2
            · rename_i s hs; exact ⟨s, hs⟩
        obtain ⟨s, hs⟩ := this
        obtain ⟨h3, h4⟩ := sfindS_some hs
        exact ⟨s, ⟨h3, by rw [h4]; exact h⟩, h4⟩
  have hl := hperm.length_eq
  rw [List.length_map, List.length_map] at hl
  rw [← hl]
  unfold missN namesN
  rw [List.filter_map, List.length_map]
  have e : ((fun t : List UInt8 => !(Kn L ⟨t.toArray⟩).isSome) ∘ fun s : Sy => s.name.data.toList) = fun s : Sy => !(Kn L s.name).isSome := by
    funext s
    simp
  rw [e]
  clear hperm hl e hn
  have : ∀ (p : Sy → Bool) (M : List Sy), (M.filter fun s => !p s).length + (M.filter p).length = M.length := by
    intro p M
    induction M with
    | nil => rfl
    | cons a M ih => cases h : p a <;> simp [h] <;> omega
  exact this (fun s => (Kn L s.name).isSome) L
open Classical in
/-- The code of a symbol without a value. -/
noncomputable def fcode (L : List Sy) (t : List UInt8) : Int := if Leads L ⟨t.toArray⟩ ⟨t.toArray⟩ then 15 else match sfindS L ⟨t.toArray⟩ with | none => 0 | some s => (s.ev (Kn L)).2
end Go.Proofs.YtnjpfhihbjihbaaGreatDoor

/- slices.DeleteFunc and slices.SortStableFunc at rows of strings. -/
namespace Go.Proofs.YtnjpfhihbjihbaaGreatDoor
open Go.RowKit Go.Sort

theorem encOne : OneCell Proofs.encStr := fun _ => rfl
theorem below_sortWorld {B : Nat} {w : World} {g : Nat} (hg : B ≤ g) (hB : B ≤ w.heap.size) (n : Nat) (os : Array Obj) (d : Array (List UInt8)) : Below B w (sortWorld Proofs.encStr w g 0 n d os) :=
  (Below.refl B w).grown (grownBy_sorted d) hB (by intro q hq; cases hq; exact hg)
theorem own_take {w : World} {base g : Nat} {e : TypeId} {n cap m : Nat} {xs : List Value} (h : w.ownsRow base e 1 (.slice (some ⟨g, 0, none⟩) n cap) n xs) (hm : m ≤ n) : w.ownsRow base e 1 (.slice (some ⟨g, 0, none⟩) m cap) m (xs.take m) := by
  obtain ⟨h1, h2⟩ := h
  refine ⟨by rw [List.length_take]; omega, .inr ?_⟩
  rcases h2 with ⟨h2, _⟩ | ⟨g', cap', cur, hv, hg, hh, hn, hc, hs, ht⟩
  · cases h2
  · cases hv
    refine ⟨g, cap, cur, rfl, hg, hh, by omega, hc, hs, ?_⟩
    rw [← ht, List.take_take]
    congr 1
    omega
/-- What is asked of a predicate handed to the library. -/
def PredB (B : Nat) (w : World) (g : Nat) (lb : Array Value) (p : List UInt8 → Bool) : Prop := ∀ W x, Below B w W → FnGives Tryz.prog g lb #[Proofs.encStr x] (.bool (p x)) W
set_option maxHeartbeats 1000000 in
theorem index_nil (f : Value) (w : World) : Calls Tryz.prog 88 #[.slice none 0 0, f] w fun e w' => e = .returned (.int .i64 (-1)) ∧ w' = w := by
  go_enter Tryz.func88, Tryz.ntmps88
  go_wp2_with fail
  go_loopw [5, 8] (fun _ i wr => i = .int .i64 0 ∧ wr = w) (fun _ _ _ => 0)
  case atStart => exact ⟨rfl, rfl⟩
  case round =>
    obtain ⟨rfl, rfl⟩ := hrel
    go_wp2_with fail
    go_ret
    exact ⟨rfl, rfl⟩
theorem delete_any (base : Nat) (v : Value) (l : List (List UInt8)) (p : List UInt8 → Bool) (g0 : Nat) (lb : Array Value) (eg : ∀ args w, (callFunc g0 args).run Tryz.prog w = .ok (.enter g0 args) w) (w : World) (hown : w.ownsRow base 9 1 v l.length (l.map Proofs.encStr)) (hnil : l = [] → v = .slice none 0 0) (hlen : l.length ≤ 1000000) (hb : base ≤ w.heap.size) (hcl : PredB base w g0 lb p) :
    Calls Tryz.prog 57 #[v, .func (.func g0) #[] lb] w fun e w' => ∃ v', e = .returned v' ∧ w'.ownsRow base 9 1 v' (l.filter fun x => !p x).length ((l.filter fun x => !p x).map Proofs.encStr) ∧ Below base w w' := by
  rcases hL : l with _ | ⟨x, m⟩
  · rw [hnil hL]
    have hix := index_nil (.func (.func g0) #[] lb)
    have HIX := Lib.hid hix
    clear hix hcl eg hown hnil
    go_enter Tryz.func57, Tryz.ntmps57
    go_wp2_with fail
    (with_reducible refine (HIX.out _).mono ?_)
    rintro e w1 ⟨rfl, rfl⟩
    go_wp2_with fail
    go_ret
    exact ⟨_, rfl, World.ownsRow_nil _ _ _ _, by (repeat (first | exact Below.refl _ _ | refine Below.drew ?_ | (refine below_gw' ?_ (by first | omega | (simp [go_sem]; done) | (simp [go_sem]; omega)) _) | (refine Below.alloc ?_ (by first | omega | (simp [go_sem]; done) | (simp [go_sem]; omega)) _) | (refine Below.setCell ?_ (by first | omega | (simp [go_sem]; done) | (simp [go_sem]; omega)) _)))⟩
  · rw [← hL]
    have hpos : 0 < l.length := by rw [hL]; simp
    clear hL
    rcases hown.2 with ⟨_, h0⟩ | ⟨g, cap, cur, rfl, hg, hbk, hn, hcap, hcur, htk⟩
    · omega
    have hgw : g < w.heap.size := lt_of_block hbk
    have hdel := AnyE.slices_DeleteFunc Tryz.del57 Proofs.encStr encOne p g0 lb eg [] (fun w => by kernel_rfl) g 0 cap l.toArray w (fun W x hW => hcl W x (hW.mono hb)) (fun n os dk x _ => hcl _ x (below_sortWorld hg hb n os dk)) (holds_of_block hbk (by simpa using htk)) (by simp; omega) (by simpa using hn)
    simp only [List.size_toArray] at hdel
    refine (show Calls Tryz.prog 57 #[.slice (some ⟨g, 0, none⟩) l.length cap, .func (.func g0) #[] lb] w _ from hdel).mono ?_
    rintro e w2 ⟨rfl, q, hw2⟩
    have hfl : (l.filter fun x => !p x).length ≤ l.length := List.length_filter_le _ _
    have hw3 : w2 = grow (putRow Proofs.encStr (Sort.ahead w q) g 0 ((l.filter fun x => !p x) ++ List.replicate (l.length - (l.filter fun x => !p x).length) []).toArray) #[] := by rw [hw2, grow_empty]
    have hown3 : w2.ownsRow base 9 1 (.slice (some ⟨g, 0, none⟩) l.length cap) l.length (((l.filter fun x => !p x) ++ List.replicate (l.length - (l.filter fun x => !p x).length) []).map Proofs.encStr) := by
      rw [hw3]
      exact ownsRow_sorted (n := q) (os := #[]) (ss := l) (by rw [List.length_append, List.length_replicate]; omega) hg hbk hn hcap hcur
    refine ⟨_, rfl, ?_, ?_⟩
    · have h4 := own_take hown3 hfl
      rw [List.map_append, List.take_left' (by simp)] at h4
      exact h4
    · exact (Below.refl base w).grown (by rw [hw3]; exact grownBy_sorted _) hb (by intro q hq; cases hq; exact hg)
/-- What is asked of a comparison handed to the library. -/
def CmpB (B : Nat) (w : World) (g : Nat) (cb : Array Value) (cf : List UInt8 → List UInt8 → Int) : Prop := ∀ W x y, Below B w W → Calls Tryz.prog g (#[Proofs.encStr x, Proofs.encStr y] ++ cb) W fun e w' => e = .returned (.int .i64 (cf x y)) ∧ ∃ q os', w' = grow (W.drewN q) os'
theorem CmpB.later {B : Nat} {w w' : World} {g : Nat} {cb : Array Value} {cf : List UInt8 → List UInt8 → Int} (h : CmpB B w g cb cf) (hb : Below B w w') : CmpB B w' g cb cf := fun W x y hW => h W x y (hb.trans hW)
theorem ins_any (base : Nat) (v : Value) (l : List (List UInt8)) (a b : Nat) (cf : List UInt8 → List UInt8 → Int) (g0 : Nat) (cb : Array Value) (eg : ∀ args w, (callFunc g0 args).run Tryz.prog w = .ok (.enter g0 args) w) (w : World) (hown : w.ownsRow base 9 1 v l.length (l.map Proofs.encStr)) (hlen : l.length ≤ 1000000) (hb : base ≤ w.heap.size) (hab : a ≤ b) (hbl : b ≤ l.length) (hcl : CmpB base w g0 cb cf) :
    Calls Tryz.prog 133 #[v, .int .i64 a, .int .i64 b, .func (.func g0) #[] cb] w fun e w' => e = .returned (.tuple #[]) ∧ w'.ownsRow base 9 1 v l.length ((insertionSort (Go.Proofs.ltOf cf) l.toArray a b).toList.map Proofs.encStr) ∧ (insertionSort (Go.Proofs.ltOf cf) l.toArray a b).size = l.length ∧ Below base w w' := by
  have hsize : (insertionSort (Go.Proofs.ltOf cf) l.toArray a b).size = l.length := by
    rw [sortP_size]; simp
  rcases hown.2 with ⟨rfl, h0⟩ | ⟨g, cap, cur, rfl, hg, hbk, hn, hcap, hcur, htk⟩
  · obtain rfl : l = [] := List.eq_nil_of_length_eq_zero h0
    obtain rfl : b = 0 := by simpa using hbl
    obtain rfl : a = 0 := by omega
    have hl0 : (insertionSort (Go.Proofs.ltOf cf) ([] : List (List UInt8)).toArray 0 0).toList = [] := List.eq_nil_of_length_eq_zero (by rw [Array.length_toList]; exact hsize)
    rw [hl0]
    have HS := Lib.hid hsize
    clear hcl eg hown hsize hl0
    go_enter Tryz.func133, Tryz.ntmps133
    go_wp2_with fail
    go_loopw [8] (fun i wr => i = .int .i64 1 ∧ wr = w) (fun _ _ => 0)
    case atStart => exact ⟨rfl, rfl⟩
    case round =>
      obtain ⟨rfl, rfl⟩ := hrel
      go_wp2_with fail
      go_end0
      exact ⟨rfl, World.ownsRow_nil _ _ _ _, HS.out, Below.refl _ _⟩
  · have hgw : g < w.heap.size := lt_of_block hbk
    have hH : Holds Proofs.encStr w g 0 l.toArray := holds_of_block hbk (by simpa using htk)
    have hins := Any.insertionSortCmpFunc_s Tryz.ins133 Proofs.encStr cf g0 cb g 0 cap a b l.toArray l.toArray w w eg (fun m os dk _ x y => hcl _ x y (below_sortWorld hg hb m os dk)) ⟨encOne, hH, hgw⟩ rfl (SW.start hH) hab (by simpa using hbl) (by simp; omega)
    simp only [List.size_toArray] at hins
    refine (show Calls Tryz.prog 133 #[.slice (some ⟨g, 0, none⟩) l.length cap, .int .i64 a, .int .i64 b, .func (.func g0) #[] cb] w _ from hins).mono ?_
    rintro e w2 ⟨rfl, n, os, rfl⟩
    refine ⟨rfl, ?_, hsize, below_sortWorld hg hb n os _⟩
    have := ownsRow_sorted (n := n) (os := os) (ss := l) (ts := (insertionSort (Go.Proofs.ltOf cf) l.toArray a b).toList) (by rw [Array.length_toList]; exact hsize) hg hbk hn hcap hcur
    exact this
set_option maxHeartbeats 2000000 in
theorem stable_any (base : Nat) (v : Value) (l : List (List UInt8)) (cf : List UInt8 → List UInt8 → Int) (g0 : Nat) (cb : Array Value) (eg : ∀ args w, (callFunc g0 args).run Tryz.prog w = .ok (.enter g0 args) w) (w : World) (hown : w.ownsRow base 9 1 v l.length (l.map Proofs.encStr)) (hlen : l.length ≤ 20) (hb : base ≤ w.heap.size) (hcl : CmpB base w g0 cb cf) :
    Calls Tryz.prog 89 #[v, .int .i64 l.length, .func (.func g0) #[] cb] w fun e w' => e = .returned (.tuple #[]) ∧ w'.ownsRow base 9 1 v l.length ((insertionSort (Go.Proofs.ltOf cf) l.toArray 0 l.length).toList.map Proofs.encStr) ∧ Below base w w' := by
  have hi1 : Calls Tryz.prog 133 #[v, .int .i64 0, .int .i64 l.length, .func (.func g0) #[] cb] w _ := ins_any base v l 0 l.length cf g0 cb eg w hown (by omega) hb (Nat.zero_le _) (Nat.le_refl _) hcl
  by_cases h20 : l.length = 20
  · have hi2 := fun w2 (hB : Below base w w2) (ho : w2.ownsRow base 9 1 v l.length ((insertionSort (Go.Proofs.ltOf cf) l.toArray 0 l.length).toList.map Proofs.encStr)) (hs : (insertionSort (Go.Proofs.ltOf cf) l.toArray 0 l.length).size = l.length) => by
      have h1 : Calls Tryz.prog 133 #[v, .int .i64 20, .int .i64 20, .func (.func g0) #[] cb] w2 _ := ins_any base v (insertionSort (Go.Proofs.ltOf cf) l.toArray 0 l.length).toList 20 20 cf g0 cb eg w2 (by rw [Array.length_toList, hs]; exact ho) (by rw [Array.length_toList, hs]; omega) (Nat.le_trans hb hB.size) (Nat.le_refl _) (by rw [Array.length_toList, hs]; omega) (hcl.later hB)
      have h2 : insertionSort (Go.Proofs.ltOf cf) (insertionSort (Go.Proofs.ltOf cf) l.toArray 0 l.length) 20 20 = insertionSort (Go.Proofs.ltOf cf) l.toArray 0 l.length := insOuter_stop _ _ _ _ _ (by omega)
      rw [Array.toArray_toList, h2, Array.length_toList, hs] at h1
      exact h1
    generalize hX : insertionSort (Go.Proofs.ltOf cf) l.toArray 0 l.length = X at hi1 hi2 ⊢
    clear hX hlen
    generalize hn : l.length = n at hi1 hi2 h20 ⊢
    subst h20
    have e20 : ((20 : Nat) : Int) = 20 := rfl
    rw [e20] at hi1
    rw [e20]
    have H1 := Lib.hid hi1
    have H2 := Lib.hid hi2
    clear hi1 hi2 hcl eg hown hn e20
    go_enter Tryz.func89, Tryz.ntmps89
    go_wp2_with fail
    go_loopw [7, 8] (fun a b wr => (a = .int .i64 0 ∧ b = .int .i64 20 ∧ wr = w) ∨ (a = .int .i64 20 ∧ b = .int .i64 40 ∧ wr.ownsRow base 9 1 v 20 (X.toList.map Proofs.encStr) ∧ X.size = 20 ∧ Below base w wr)) (fun a _ _ => 20 - (intOf a).toNat)
    case atStart => exact .inl ⟨rfl, rfl, rfl⟩
    case round =>
      rcases hrel with ⟨rfl, rfl, rfl⟩ | ⟨rfl, rfl, ho, hs, hbel⟩
      · go_wp2_with fail
        (with_reducible refine H1.out.mono ?_)
        rintro e w1 ⟨rfl, ho1, hs1, hb1⟩
        have HO := Lib.hid ho1
        have HSZ := Lib.hid hs1
        have HB := Lib.hid hb1
        clear ho1 hs1 hb1
        go_wp2_with fail
        go_roundw
        case rel => exact .inr ⟨by go_num, by go_num, HO.out, HSZ.out, HB.out⟩
        case measure => simp [intOf]
      · have HB := Lib.hid hbel
        have hi2 := H2.out wr hbel ho hs
        have H3 := Lib.hid hi2
        clear hi2 hbel ho hs
        go_wp2_with fail
        (with_reducible refine H3.out.mono ?_)
        rintro e w1 ⟨rfl, ho1, hs1, hb1⟩
        have HO := Lib.hid ho1
        have HB1 := Lib.hid (HB.out.trans hb1)
        clear ho1 hs1 hb1
        go_wp2_with fail
        go_loopw [6, 7, 8, 9] (fun a _ _ _ wr => a = .int .i64 20 ∧ wr = w1) (fun _ _ _ _ _ => 0)
        case atStart => exact ⟨rfl, rfl⟩
        case round =>
          obtain ⟨rfl, rfl⟩ := hrel
          go_wp2_with fail
          go_end0
          exact ⟨rfl, HO.out, HB1.out⟩
  · generalize hX : insertionSort (Go.Proofs.ltOf cf) l.toArray 0 l.length = X at hi1 ⊢
    have hl0 : (0 : Int) ≤ (l.length : Int) := by omega
    have hl19 : ¬ (20 : Int) ≤ (l.length : Int) := by omega
    have hl20 : ¬ (20 : Int) < (l.length : Int) := by omega
    have H1 := Lib.hid hi1
    clear hi1 hcl eg hown hX h20
    go_enter Tryz.func89, Tryz.ntmps89
    go_wp2_with fail
    go_loopw [7, 8] (fun a b wr => a = .int .i64 0 ∧ b = .int .i64 20 ∧ wr = w) (fun _ _ _ => 0)
    case atStart => exact ⟨rfl, rfl, rfl⟩
    case round =>
      obtain ⟨rfl, rfl, rfl⟩ := hrel
      go_wp2_with fail
      (with_reducible refine H1.out.mono ?_)
      rintro e w1 ⟨rfl, ho1, hs1, hb1⟩
      have HO := Lib.hid ho1
      have HB := Lib.hid hb1
      clear ho1 hs1 hb1
      go_wp2_with fail
      go_loopw [6, 7, 8, 9] (fun a _ _ _ wr => a = .int .i64 20 ∧ wr = w1) (fun _ _ _ _ _ => 0)
      case atStart => exact ⟨rfl, rfl⟩
      case round =>
        obtain ⟨rfl, rfl⟩ := hrel
        go_wp2_with fail
        go_end0
        exact ⟨rfl, HO.out, HB.out⟩
set_option maxHeartbeats 1000000 in
theorem sortStable_any (base : Nat) (v : Value) (l : List (List UInt8)) (cf : List UInt8 → List UInt8 → Int) (g0 : Nat) (cb : Array Value) (eg : ∀ args w, (callFunc g0 args).run Tryz.prog w = .ok (.enter g0 args) w) (w : World) (hown : w.ownsRow base 9 1 v l.length (l.map Proofs.encStr)) (hlen : l.length ≤ 20) (hb : base ≤ w.heap.size) (hcl : CmpB base w g0 cb cf) :
    Calls Tryz.prog 59 #[v, .func (.func g0) #[] cb] w fun e w' => e = .returned (.tuple #[]) ∧ w'.ownsRow base 9 1 v l.length ((insertionSort (Go.Proofs.ltOf cf) l.toArray 0 l.length).toList.map Proofs.encStr) ∧ Below base w w' := by
  have hst := stable_any base v l cf g0 cb eg w hown hlen hb hcl
  obtain ⟨a, cap, rfl, hcap, _⟩ := Row.of_owns hown
  have HST := Lib.hid hst
  clear hst hcl eg hown
  go_enter Tryz.func59, Tryz.ntmps59
  go_wp2_with fail
  (with_reducible refine HST.out.mono ?_)
  rintro e w1 ⟨rfl, ho1, hb1⟩
  have HO := Lib.hid ho1
  have HB := Lib.hid hb1
  clear ho1 hb1
  go_wp2_with fail
  go_end0
  exact ⟨rfl, HO.out, HB.out⟩
end Go.Proofs.YtnjpfhihbjihbaaGreatDoor

/- (*symbols.Table).Faults. -/
namespace Go.Proofs.YtnjpfhihbjihbaaGreatDoor
open Go.RowKit Go.Sort

open Go.ChangeMaps
theorem contains_any (L : List (List UInt8)) (s : ByteArray) (v : Value) (w : World) (hr : Row w v L.length (L.map Proofs.encStr)) (hl : L.length ≤ 1000000) :
    Calls Tryz.prog 16 #[v, .string s] w fun e w' => e = .returned (.bool (decide (s.data.toList ∈ L))) ∧ w' = w := by
  obtain ⟨a, cap, rfl, hcap, hc⟩ := hr
  have hM : (L.map fun y => (⟨y.toArray⟩ : ByteArray)).length = L.length := by simp
  have hmem : s ∈ L.map (fun y => (⟨y.toArray⟩ : ByteArray)) ↔ s.data.toList ∈ L := by
    simp only [List.mem_map]
    constructor
    · rintro ⟨y, hy, rfl⟩; simpa using hy
    · intro h; exact ⟨_, h, by simp⟩
  by_cases hL : L = []
  · subst hL
    refine (Tryz.slices_Contains_string_empty a cap s w).mono ?_
    rintro e w' ⟨rfl, rfl⟩
    exact ⟨by simp, rfl⟩
  · obtain ⟨g, o, rfl, hg, hcc⟩ := hc (by simpa using hL)
    refine (Tryz.slices_Contains_string g o L.length cap (L.map fun y => (⟨y.toArray⟩ : ByteArray)) s w (by rw [hM]; exact Nat.le_refl _) (by omega) (fun j hj => (hcc j (by rw [List.length_map]; rw [hM] at hj; exact hj)).trans ?_)).mono ?_
    · rw [hM] at hj
      simp [List.getD, List.getElem?_eq_getElem hj, Proofs.encStr]
    · rintro e w' ⟨he, rfl⟩
      refine ⟨?_, rfl⟩
      rw [he]
      congr 2
      rw [Bool.eq_iff_iff, decide_eq_true_iff, ← hmem, Lib.containsS_iff, List.take_of_length_le (by simp)]
theorem PredB.later {B : Nat} {w w' : World} {g : Nat} {lb : Array Value} {p : List UInt8 → Bool} (h : PredB B w g lb p) (hb : Below B w w') : PredB B w' g lb p := fun W x hW => h W x (hb.trans hW)
set_option maxHeartbeats 1000000 in
theorem fdel_pred (L : List Sy) (ck : Nat) (m : Value) (w1 : World) (hm : KnMap w1 L m) (hk : w1.cell? ⟨ck, 0, none⟩ = some m) : PredB w1.heap.size w1 58 #[.pointer (some ⟨ck, 0, none⟩)] (fun x => (Kn L ⟨x.toArray⟩).isSome) := by
  intro W x hW
  obtain ⟨bo, lO, rfl, hs, he⟩ := hm.below hW
  have hkW := (hW.cell (p := ⟨ck, 0, none⟩) (cell_lt hk)).trans hk
  have hlk := run_sget (P := Tryz.prog) Tryz.underlying49 Tryz.underlying9 zeroInt hs ⟨x.toArray⟩ true
  rw [he] at hlk
  have hltW := cell_lt hkW
  unfold FnGives
  show Calls Tryz.prog 58 #[.string ⟨x.toArray⟩, .pointer (some ⟨ck, 0, none⟩)] W fun e w' => e = .returned (.bool (Kn L ⟨x.toArray⟩).isSome) ∧ ∃ q, w' = W.drewN q
  clear hs he hm hk
  cases hv : Kn L ⟨x.toArray⟩ with
  | none =>
    rw [hv] at hlk
    simp only [Option.map_none, Option.getD_none, Option.isSome_none, if_true] at hlk ⊢
    clear hv
    go_enter Tryz.func58, Tryz.ntmps58
    go_wp2_with fail
    go_ret
    exact ⟨rfl, 0, rfl⟩
  | some n =>
    rw [hv] at hlk
    simp only [Option.map_some, Option.getD_some, Option.isSome_some, if_true] at hlk ⊢
    clear hv
    go_enter Tryz.func58, Tryz.ntmps58
    go_wp2_with fail
    go_ret
    exact ⟨rfl, 0, rfl⟩
theorem look_line (w : World) (g b : Nat) (M : List (Sy × Value)) (hT : TabIn w g b M) (x : List UInt8) : ∃ (n0 : Int) (px : Option Addr) (h0 : Int), (sget (M.map symP) ⟨x.toArray⟩).getD (.agg #[.int .i64 0, .pointer none, .int .i64 0, .int .i64 0]) = .agg #[.int .i64 n0, .pointer px, .int .i64 h0, .int .i64 (lineOf (M.map Prod.fst) x)] := by
  unfold lineOf
  rcases sget_symP M ⟨x.toArray⟩ with ⟨h1, h2⟩ | ⟨y, hy, h1, h2⟩
  · rw [h1, h2]; exact ⟨0, none, 0, rfl⟩
  · obtain ⟨px, hpx⟩ := (hT.node y hy).ptr
    rw [h1, h2, Option.getD_some]
    unfold symV
    rw [hpx]
    exact ⟨_, px, _, rfl⟩
set_option maxHeartbeats 2000000 in
theorem fcmp_cmp (g b : Nat) (M : List (Sy × Value)) (ct : Nat) (w1 : World) (hT : TabIn w1 g b M) (hc : w1.cell? ⟨ct, 0, none⟩ = some (.pointer (some ⟨g, 0, none⟩))) : CmpB w1.heap.size w1 60 #[.pointer (some ⟨ct, 0, none⟩)] (cfLine (M.map Prod.fst)) := by
  intro W x y hW
  have hT' := hT.below hW
  have c1 := (hW.cell (p := ⟨ct, 0, none⟩) (cell_lt hc)).trans hc
  have c2 := hT'.cell
  have l1 := cell_lt c1
  have l2 := cell_lt c2
  obtain ⟨n0, px, h0, e1⟩ := look_line W g b M hT' x
  obtain ⟨n1, py, h1, e2⟩ := look_line W g b M hT' y
  have hlk1 := fun n => run_sget (P := Tryz.prog) (w := W.drewN n) Tryz.underlying103 Tryz.underlying9 zeroSym (hT'.map.block rfl) ⟨x.toArray⟩ false
  have hlk2 := fun n => run_sget (P := Tryz.prog) (w := W.drewN n) Tryz.underlying103 Tryz.underlying9 zeroSym (hT'.map.block rfl) ⟨y.toArray⟩ false
  simp only [Bool.false_eq_true, if_false] at hlk1 hlk2
  rw [e1] at hlk1
  rw [e2] at hlk2
  unfold cfLine
  generalize lineOf (M.map Prod.fst) x = la at hlk1 ⊢
  generalize lineOf (M.map Prod.fst) y = lb at hlk2 ⊢
  have hf1 : ∀ w, (Instr.field 101 (.agg #[.int .i64 n0, .pointer px, .int .i64 h0, .int .i64 la]) 3).run Tryz.prog w = .ok (.int .i64 la) w := fun w => by kernel_rfl
  have hf2 : ∀ w, (Instr.field 101 (.agg #[.int .i64 n1, .pointer py, .int .i64 h1, .int .i64 lb]) 3).run Tryz.prog w = .ok (.int .i64 lb) w := fun w => by kernel_rfl
  have hcm := Tryz.cmp_Compare_int la lb
  show Calls Tryz.prog 60 #[.string ⟨x.toArray⟩, .string ⟨y.toArray⟩, .pointer (some ⟨ct, 0, none⟩)] W fun e w' => e = .returned (.int .i64 (Lib.compareInt la lb)) ∧ ∃ q os', w' = grow (W.drewN q) os'
  generalize Lib.compareInt la lb = r at hcm ⊢
  have HCM := Lib.hid hcm
  clear hT hT' hc e1 e2 hcm hW
  go_enter Tryz.func60, Tryz.ntmps60
  go_wp2_with fail
  refine wp_region_quiet_lit (by kernel_rfl) (by kernel_rfl) ?_
  repeat (go_big_quiet_step (exact Calls.quiet_of_same (HCM.out _)))
  refine wpQuiet_nil ?_
  intro _ hw'
  obtain ⟨nq, hw''⟩ := hw'
  subst hw''
  go_wp2_with fail
  go_ret
  exact ⟨rfl, nq, #[], by rw [grow_empty]⟩
theorem box1_all {w w1 : World} {a : Value} {T : TypeId} {r : Nat × Nat} (hb : Below (w.alloc (Obj.cells #[a] T r)).heap.size (w.alloc (Obj.cells #[a] T r)) w1) :
    Below w.heap.size w w1 ∧ w.heap.size < w1.heap.size ∧ w1.cell? ⟨w.heap.size, 0, none⟩ = some a := by
  have hs : (w.alloc (Obj.cells #[a] T r)).heap.size = w.heap.size + 1 := by show (w.heap.push _).size = _; simp
  have hlt : w.heap.size < (w.alloc (Obj.cells #[a] T r)).heap.size := by omega
  have h1 := hb.size
  have h0 : (w.alloc (Obj.cells #[a] T r)).heap[w.heap.size]? = some (Obj.cells #[a] T r) := alloc_at' w _
  exact ⟨Below.trans (b := w.alloc (Obj.cells #[a] T r)) (by (repeat (first | exact Below.refl _ _ | refine Below.drew ?_ | (refine below_gw' ?_ (by first | omega | (simp [go_sem]; done) | (simp [go_sem]; omega)) _) | (refine Below.alloc ?_ (by first | omega | (simp [go_sem]; done) | (simp [go_sem]; omega)) _) | (refine Below.setCell ?_ (by first | omega | (simp [go_sem]; done) | (simp [go_sem]; omega)) _)))) (hb.mono (by omega)), by omega, (hb.cell (p := ⟨w.heap.size, 0, none⟩) hlt).trans (cell_at h0 0)⟩
theorem box4_all {w w1 : World} {a b c d : Value} {T : TypeId} {r : Nat × Nat} (hb : Below (w.alloc (Obj.cells #[a, b, c, d] T r)).heap.size (w.alloc (Obj.cells #[a, b, c, d] T r)) w1) :
    Below w.heap.size w w1 ∧ w.heap.size < w1.heap.size ∧ w1.cell? ⟨w.heap.size, 3, none⟩ = some d := by
  have hs : (w.alloc (Obj.cells #[a, b, c, d] T r)).heap.size = w.heap.size + 1 := by show (w.heap.push _).size = _; simp
  have hlt : w.heap.size < (w.alloc (Obj.cells #[a, b, c, d] T r)).heap.size := by omega
  have h1 := hb.size
  have h0 : (w.alloc (Obj.cells #[a, b, c, d] T r)).heap[w.heap.size]? = some (Obj.cells #[a, b, c, d] T r) := alloc_at' w _
  exact ⟨Below.trans (b := w.alloc (Obj.cells #[a, b, c, d] T r)) (by (repeat (first | exact Below.refl _ _ | refine Below.drew ?_ | (refine below_gw' ?_ (by first | omega | (simp [go_sem]; done) | (simp [go_sem]; omega)) _) | (refine Below.alloc ?_ (by first | omega | (simp [go_sem]; done) | (simp [go_sem]; omega)) _) | (refine Below.setCell ?_ (by first | omega | (simp [go_sem]; done) | (simp [go_sem]; omega)) _)))) (hb.mono (by omega)), by omega, (hb.cell (p := ⟨w.heap.size, 3, none⟩) hlt).trans (cell_at h0 3)⟩
/-- The names of the faults, in their order; the cells of a fault. -/
noncomputable def namesF (L : List Sy) : List (List UInt8) := sortP L (missN L (sortL (namesN L)))
noncomputable def flc (L : List Sy) (t : List UInt8) : List Value := [.int .i64 (lineOf L t), .int .i64 (fcode L t)]
theorem sortP_len (L : List Sy) (l : List (List UInt8)) : (sortP L l).length = l.length := by
  unfold sortP
  rw [Array.length_toList]
  have h := sortP_size (Go.Proofs.ltOf (cfLine L)) l.length 0 l.toArray
  rw [h]; simp
theorem missN_len (L : List Sy) (l : List (List UInt8)) : (missN L l).length ≤ l.length := List.length_filter_le _ _
theorem namesF_mem {L : List Sy} (h : (L.map Sy.name).Nodup) {t : List UInt8} (ht : t ∈ namesF L) : ∃ s ∈ L, s.name.data.toList = t ∧ sfindS L ⟨t.toArray⟩ = some s ∧ Kn L ⟨t.toArray⟩ = none := by
  have h1 := (sortP_spec L _ (missN_strict h)).2.mem_iff.1 ht
  unfold missN at h1
  rw [List.mem_filter] at h1
  obtain ⟨h2, h3⟩ := h1
  rw [sortL_mem] at h2
  obtain ⟨s, hs, rfl⟩ := List.mem_map.1 h2
  have e : (⟨s.name.data.toList.toArray⟩ : ByteArray) = s.name := by simp
  refine ⟨s, hs, rfl, by rw [e]; exact sfindS_mem h hs, ?_⟩
  simpa using h3
theorem miss_ex {L : List Sy} {s : Sy} (hs : sfindS L s.name = some s) (hk : Kn L s.name = none) : ∃ y, s.ex = some y := by
  rcases he : s.ex with _ | y
  · have : Kn L s.name = some s.n := Kn_iff.2 ⟨1, by
      unfold kenv
      rw [hs]
      simp [Sy.ev, he]⟩
    rw [this] at hk; cases hk
  · exact ⟨y, rfl⟩
theorem faultInfo : (Tryz.prog.info? 68).map (fun i => (i.zero, i.size, i.bytes)) = some (some (.agg #[.int .i64 0, .int .i64 0]), 2, 16) := by kernel_rfl
set_option maxHeartbeats 8000000 in
set_option maxRecDepth 100000 in
theorem faults_any (g b : Nat) (M : List (Sy × Value)) (hok : ∀ x ∈ M, SyOk x.1) (hM : M.length ≤ 20) (hnm : ∀ x ∈ M, x.1.name.size ≤ 1000) (w : World) (hT : TabIn w g b M) :
    Calls Tryz.prog 28 #[.pointer (some ⟨g, 0, none⟩)] w fun e w' => ∃ v, e = .returned v ∧ Row w' v (namesF (M.map Prod.fst)).length ((namesF (M.map Prod.fst)).flatMap (flc (M.map Prod.fst))) ∧ Below w.heap.size w w' := by
  obtain ⟨i0, hi, hz0, hz1, hz2⟩ := info_parts faultInfo
  unfold namesF
  obtain ⟨L, hL⟩ : ∃ L, M.map Prod.fst = L := ⟨_, rfl⟩
  have hnn : (M.map fun x => x.1.name.data.toList) = namesN L := by rw [← hL]; unfold namesN; rw [List.map_map]; rfl
  have hnl : (namesN L).length ≤ 20 := by rw [← hnn, List.length_map]; exact hM
  have hnd : (L.map Sy.name).Nodup := by rw [← hL]; exact hT.nodup
  have hokL : ∀ s ∈ L, SyOk s := fun s hs => by rw [← hL] at hs; obtain ⟨x, hx, rfl⟩ := List.mem_map.1 hs; exact hok x hx
  have hg : g < w.heap.size := lt_of_block hT.head
  rw [hL]
  have HN := Lib.hid hnn
  have HL := Lib.hid hL
  have HND := Lib.hid hnd
  have HOKL := Lib.hid hokL
  have HOK := Lib.hid hok
  have HNM := Lib.hid hnm
  have HT := Lib.hid hT
  clear hnn hL hnd hokL hok hnm hT
  go_enter Tryz.func28, Tryz.ntmps28
  go_wp2_with fail
  (with_reducible refine (known_any g b M HOK.out _ (HT.out.below (by (repeat (first | exact Below.refl _ _ | refine Below.drew ?_ | (refine below_gw' ?_ (by first | omega | (simp [go_sem]; done) | (simp [go_sem]; omega)) _) | (refine Below.alloc ?_ (by first | omega | (simp [go_sem]; done) | (simp [go_sem]; omega)) _) | (refine Below.setCell ?_ (by first | omega | (simp [go_sem]; done) | (simp [go_sem]; omega)) _)))))).mono ?_)
  rintro e w1 ⟨m, rfl, hm1, hb1⟩
  obtain ⟨bo, lO, rfl, hso, heo⟩ := hm1
  obtain ⟨hbw1, hlt1, k1⟩ := box1_all hb1
  have HB1 := Lib.hid hbw1
  have HKN : Hid (KnMap w1 L (.map (some bo))) := Lib.hid ⟨bo, lO, rfl, hso, fun t => by rw [heo, HL.out]⟩
  obtain ⟨wa, hwa⟩ : ∃ wa, w1.alloc (Obj.cells #[.map (some bo)] 49) = wa := ⟨_, rfl⟩
  have hba : Below w1.heap.size w1 wa := by rw [← hwa]; (repeat (first | exact Below.refl _ _ | refine Below.drew ?_ | (refine below_gw' ?_ (by first | omega | (simp [go_sem]; done) | (simp [go_sem]; omega)) _) | (refine Below.alloc ?_ (by first | omega | (simp [go_sem]; done) | (simp [go_sem]; omega)) _) | (refine Below.setCell ?_ (by first | omega | (simp [go_sem]; done) | (simp [go_sem]; omega)) _)))
  have hha : wa.heap[w1.heap.size]? = some (Obj.cells #[.map (some bo)] 49 (0, 0)) := by rw [← hwa]; exact alloc_at' w1 _
  have ka := (cell_at hha 0).trans (show (#[Value.map (some bo)] : Array Value)[0]? = some (.map (some bo)) from rfl)
  have ca := (hba.cell (p := ⟨w.heap.size, 0, none⟩) hlt1).trans k1
  have hTa := (HT.out.below HB1.out).below hba
  have hKa := HKN.out.below hba
  have hpr := fdel_pred L w1.heap.size _ wa hKa ka
  have hcm : CmpB wa.heap.size wa 60 #[.pointer (some ⟨w.heap.size, 0, none⟩)] (cfLine L) := by
    have := fcmp_cmp g b M w.heap.size wa hTa ca
    rw [HL.out] at this
    exact this
  have hnt := namesT_any g b M (by omega) HNM.out wa hTa
  rw [HN.out] at hnt
  have HBA : Hid (Below w.heap.size w wa) := Lib.hid (HB1.out.trans (hba.mono HB1.out.size))
  have HTA := Lib.hid hTa
  have HKA := Lib.hid hKa
  have HKC := Lib.hid ka
  have HCA := Lib.hid ca
  have HPR := Lib.hid hpr
  have HCM := Lib.hid hcm
  have HNT := Lib.hid hnt
  have hlt1a : w1.heap.size < wa.heap.size := lt_of_block hha
  have hlta : w.heap.size < wa.heap.size := Nat.lt_of_lt_of_le hlt1 hba.size
  have HWA := Lib.hid hwa
  clear hb1 hbw1 hso heo hba hha ka ca hTa hKa hpr hcm hnt HT HKN HB1 HN hwa
  go_wp2_with fail
  rw [HWA.out]
  (with_reducible refine HNT.out.mono ?_)
  rintro e w2 ⟨v2, rfl, hrow2, hnil2, hb2⟩
  have hB2 := hb2.size
  have hl2 : (sortL (namesN L)).length ≤ 20 := by rw [sortL_len]; exact hnl
  have hdel := delete_any wa.heap.size v2 (sortL (namesN L)) (fun x => (Kn L ⟨x.toArray⟩).isSome) 58 _ (enters_of Tryz.func58 (by kernel_rfl) rfl) w2 hrow2 hnil2.2 (by omega) hB2 (HPR.out.later hb2)
  have HDEL := Lib.hid hdel
  have HB2 := Lib.hid hb2
  clear hdel hrow2 hnil2 hb2 HPR HNT
  go_wp2_with fail
  (with_reducible refine HDEL.out.mono ?_)
  rintro e w3 ⟨v3, rfl, ho3, hb3⟩
  have hB3 := hb3.size
  have hmis : ((sortL (namesN L)).filter fun x => !(Kn L ⟨x.toArray⟩).isSome) = missN L (sortL (namesN L)) := rfl
  rw [hmis] at ho3
  have hl3 := missN_len L (sortL (namesN L))
  have hst := sortStable_any wa.heap.size v3 (missN L (sortL (namesN L))) (cfLine L) 60 _ (enters_of Tryz.func60 (by kernel_rfl) rfl) w3 ho3 (by omega) (Nat.le_trans hB2 hB3) (HCM.out.later (HB2.out.trans hb3))
  obtain ⟨a3, cap3, rfl, hcap3, _⟩ := Row.of_owns ho3
  have hpl := sortP_len L (missN L (sortL (namesN L)))
  have hpf : (insertionSort (Go.Proofs.ltOf (cfLine L)) (missN L (sortL (namesN L))).toArray 0 (missN L (sortL (namesN L))).length).toList = sortP L (missN L (sortL (namesN L))) := rfl
  rw [hpf, ← hpl] at hst
  rw [← hpl] at hcap3
  have hpn : (sortP L (missN L (sortL (namesN L)))).length ≤ 20 := by omega
  rw [← hpl]
  have HST := Lib.hid hst
  have HB3 : Hid (Below wa.heap.size wa w3) := Lib.hid (HB2.out.trans hb3)
  clear hst ho3 hb3 hmis hl3 hpf hpl HCM HDEL HB2 hl2
  go_wp2_with fail
  (with_reducible refine HST.out.mono ?_)
  rintro e w4 ⟨rfl, ho4, hb4⟩
  have hba4 : Below wa.heap.size wa w4 := HB3.out.trans hb4
  have hlw4 := hba4.size
  obtain ⟨ax, capx, hv4, hcp, hcs4⟩ := (Row.of_owns ho4).strs
  cases hv4
  have HC := Lib.hid hcs4
  have HMEM : Hid (∀ t ∈ sortP L (missN L (sortL (namesN L))), ∃ s ∈ L, s.name.data.toList = t ∧ sfindS L ⟨t.toArray⟩ = some s ∧ Kn L ⟨t.toArray⟩ = none) := Lib.hid fun t ht => namesF_mem HND.out ht
  generalize hPe : sortP L (missN L (sortL (namesN L))) = P at *
  have HPE := Lib.hid hPe
  clear hPe
  have hp1 : (P.length : Int) ≤ 20 := by omega
  have hpc : (P.length : Int) ≤ (cap3 : Int) := by omega
  have q1 := (hba4.cell (p := ⟨w.heap.size, 0, none⟩) hlta).trans HCA.out
  have q3 := (hba4.cell (p := ⟨w1.heap.size, 0, none⟩) hlt1a).trans HKC.out
  have lq1 := cell_lt q1
  have lq3 := cell_lt q3
  have HT4 := Lib.hid (HTA.out.below hba4)
  have HK4 := Lib.hid (HKA.out.below hba4)
  have HB4 : Hid (Below w.heap.size w w4) := Lib.hid (HBA.out.trans (hba4.mono (Nat.le_of_lt hlta)))
  clear ho4 hb4 hba4 hcs4 HST HB3 HTA HKA HKC HCA HBA hlta hlt1a hlt1 hB2 hB3 hlw4
  go_wp2_with fail
  go_loopw [5, 22] (fun u i wr => ∃ k : Nat, k ≤ P.length ∧ i = .int .i64 k ∧ wr.ownsRow w4.heap.size 68 2 u k ((P.take k).flatMap (flc L)) ∧ Below w4.heap.size w4 wr) (fun _ i _ => P.length - (intOf i).toNat)
  case atStart => exact ⟨0, Nat.zero_le _, rfl, World.ownsRow_nil _ _ _ _, Below.refl _ _⟩
  case round =>
    obtain ⟨k, hk, rfl, hown, hbel⟩ := hrel
    have HOWN := Lib.hid hown
    have HBEL := Lib.hid hbel
    have hszr : w4.heap.size ≤ wr.heap.size := hbel.size
    by_cases hlt : k < P.length
    · obtain ⟨t, ht⟩ : ∃ t, P[k]? = some t := ⟨_, List.getElem?_eq_getElem hlt⟩
      obtain ⟨gr, o, rfl, hgr, hcs⟩ := HC.out (by rintro rfl; simp at ht)
      have f0 := (hbel.cell (p := ⟨gr, o + k, none⟩) hgr).trans (hcs k t ht)
      obtain ⟨s, hsL, hst, hfs, hkn⟩ := HMEM.out t (List.mem_of_getElem? ht)
      subst hst
      have est : (⟨s.name.data.toList.toArray⟩ : ByteArray) = s.name := by simp
      rw [est] at hfs hkn f0
      obtain ⟨y, hy⟩ := miss_ex hfs hkn
      have hTr := HT4.out.below hbel
      have hlk := run_sget (P := Tryz.prog) Tryz.underlying103 Tryz.underlying9 zeroSym hTr.map s.name false
      have hsx : ∃ x ∈ M, sget (M.map symP) s.name = some (symV x.1 x.2) ∧ x.1 = s := by
        rcases sget_symP M s.name with ⟨_, h2⟩ | ⟨x, hx, h1, h2⟩
        · rw [HL.out, hfs] at h2; cases h2
        · rw [HL.out, hfs] at h2; exact ⟨x, hx, h1, (Option.some.inj h2).symm⟩
      obtain ⟨x, hx, h1, hxs⟩ := hsx
      have hno := hTr.node x hx
      have hline : lineOf L s.name.data.toList = s.line := by unfold lineOf; rw [est, hfs]
      have hcode : ∀ c, (Leads L s.name s.name → c = 15) → (¬ Leads L s.name s.name → c = (y.eval (Kn L) s.here).2) → flc L s.name.data.toList = [.int .i64 s.line, .int .i64 c] := by
        intro c hc1 hc2
        unfold flc fcode
        rw [hline, est, hfs]
        by_cases hld : Leads L s.name s.name
        · rw [if_pos hld, hc1 hld]
        · rw [if_neg hld, hc2 hld]
          show [Value.int .i64 s.line, Value.int .i64 (s.ev (Kn L)).2] = _
          unfold Sy.ev
          rw [hy]
      have hsok := HOKL.out s hsL
      have hev := fun v w hn hm => eval_any (Kn L) s.here (fun t n h => Kn_in HOKL.out t n h) hsok.2.1 (.map (some bo)) y (hsok.2.2 y hy).1 v w hn hm
      unfold EvRes at hev
      have htk : P.take (k + 1) = P.take k ++ [s.name.data.toList] := by rw [List.take_add_one, ht]; rfl
      obtain ⟨⟨xname, xn, xex, xhere, xline⟩, xv⟩ := x
      subst hxs
      dsimp only at *
      subst hy
      obtain ⟨q, rfl⟩ : ∃ q, xv = .pointer (some q) := by obtain ⟨g, h, _⟩ := NodeAt.ptr hno; exact ⟨_, h⟩
      have hnn : NodeAt 130 0 wr y (.pointer (some q)) := hno
      rw [h1] at hlk
      simp only [symV, Option.getD_some, Bool.false_eq_true, if_false] at hlk
      generalize y.eval (Kn L) xhere = r at hev hcode
      have d1 := (hbel.cell (p := ⟨w.heap.size, 0, none⟩) lq1).trans q1
      have d3 := (hbel.cell (p := ⟨w1.heap.size, 0, none⟩) lq3).trans q3
      have d2 := hTr.cell
      have l1 := cell_lt d1
      have l2 := cell_lt d2
      have l3 := cell_lt d3
      have hgw : gr < wr.heap.size := by omega
      have hi0 : (0 : Int) ≤ (k : Int) := by omega
      have hi1 : (k : Int) < (P.length : Int) := by omega
      have HCODE := Lib.hid hcode
      have HEV := Lib.hid hev
      have HNO := Lib.hid hnn
      have HTR := Lib.hid hTr
      have HTK := Lib.hid htk
      clear hown hbel hcs hfs hkn hx h1 hline hcode hev hno hnn hTr htk hsok hsL ht est
      go_wp2_with fail
      (with_reducible refine (HEV.out _ _ (HNO.out.below (by (repeat (first | exact Below.refl _ _ | refine Below.drew ?_ | (refine below_gw' ?_ (by first | omega | (simp [go_sem]; done) | (simp [go_sem]; omega)) _) | (refine Below.alloc ?_ (by first | omega | (simp [go_sem]; done) | (simp [go_sem]; omega)) _) | (refine Below.setCell ?_ (by first | omega | (simp [go_sem]; done) | (simp [go_sem]; omega)) _))))) (((HK4.out.below HBEL.out).below (by (repeat (first | exact Below.refl _ _ | refine Below.drew ?_ | (refine below_gw' ?_ (by first | omega | (simp [go_sem]; done) | (simp [go_sem]; omega)) _) | (refine Below.alloc ?_ (by first | omega | (simp [go_sem]; done) | (simp [go_sem]; omega)) _) | (refine Below.setCell ?_ (by first | omega | (simp [go_sem]; done) | (simp [go_sem]; omega)) _))))).at)).mono ?_)
      rintro e w5 ⟨rfl, hb5⟩
      obtain ⟨hbw5, hlt5, r3⟩ := box4_all hb5
      have e1 := (hbw5.cell (p := ⟨w.heap.size, 0, none⟩) l1).trans d1
      have m1 := cell_lt e1
      have hus : Calls Tryz.prog 24 #[.pointer (some ⟨g, 0, none⟩), .slice (some ⟨w5.heap.size, 0, none⟩) 1 1] (w5.alloc (.cells #[.string xname] 9)) (UsRes L [xname.data.toList] (w5.alloc (.cells #[.string xname] 9))) := by
        have h := uses_any g b M HOK.out (by omega) HNM.out [xname.data.toList] (by simp) (.slice (some ⟨w5.heap.size, 0, none⟩) 1 1) (w5.alloc (.cells #[.string xname] 9)) ((HTR.out.below hbw5).below (by (repeat (first | exact Below.refl _ _ | refine Below.drew ?_ | (refine below_gw' ?_ (by first | omega | (simp [go_sem]; done) | (simp [go_sem]; omega)) _) | (refine Below.alloc ?_ (by first | omega | (simp [go_sem]; done) | (simp [go_sem]; omega)) _) | (refine Below.setCell ?_ (by first | omega | (simp [go_sem]; done) | (simp [go_sem]; omega)) _))))) ⟨_, 1, rfl, Nat.le_refl _, fun _ => ⟨w5.heap.size, 0, rfl, lt_of_block (alloc_at' w5 _), fun j hj => by
          have hj0 : j = 0 := by simp at hj; exact hj
          subst hj0
          rw [cell_at (alloc_at' w5 _)]
          simp [Proofs.encStr]⟩⟩
        rw [HL.out] at h
        exact h
      unfold UsRes NmRes at hus
      have HUS := Lib.hid hus
      have HB5 : Hid (Below w4.heap.size w4 w5) := Lib.hid (HBEL.out.trans (hbw5.mono hszr))
      have HOWN5 := Lib.hid (owns_below' HOWN.out hbw5)
      have hsz5 := hbw5.size
      clear hb5 hbw5 hus hlk d1 d2 d3 f0 HEV HNO
      go_wp2_with fail
      (with_reducible refine HUS.out.mono ?_)
      rintro e w6 ⟨lO6, ⟨v6, rfl, ho6, _, hb6⟩, _, hl6, hiff6⟩
      obtain ⟨hbw6, hlt6, _⟩ := box1_all hb6
      have s3 := (hbw6.cell (p := ⟨wr.heap.size, 3, none⟩) hlt5).trans r3
      have ls3 := cell_lt s3
      have hLM : L.length = M.length := by rw [← HL.out, List.length_map]
      have hcon := contains_any (sortL (lO6.map fun x => x.1.data.toList)) xname v6 w6 (Row.of_owns ho6) (by rw [sortL_len, List.length_map]; omega)
      have hmm : xname.data.toList ∈ sortL (lO6.map fun x => x.1.data.toList) ↔ Leads L xname xname := by
        rw [sortL_mem]
        have h2 := hiff6 xname
        rw [seen_mem] at h2
        constructor
        · intro h
          obtain ⟨z, hz, e⟩ := List.mem_map.1 h
          have e2 : z.1 = xname := ByteArray.ext (Array.ext' e)
          obtain ⟨nm, hnm, hle⟩ := h2.1 (by rw [← e2]; exact List.mem_map_of_mem hz)
          rw [List.mem_singleton] at hnm
          subst hnm
          simpa using hle
        · intro h
          obtain ⟨z, hz, e⟩ := List.mem_map.1 (h2.2 ⟨_, List.mem_singleton.2 rfl, by simpa using h⟩)
          exact List.mem_map.2 ⟨z, hz, by rw [e]⟩
      have HB6 : Hid (Below w4.heap.size w4 w6) := Lib.hid (HB5.out.trans (hbw6.mono (Nat.le_trans hszr hsz5)))
      have HOWN6 := Lib.hid (owns_below' HOWN5.out hbw6)
      have hsz6 := hbw6.size
      have hszf : w4.heap.size ≤ w6.heap.size := by omega
      by_cases hld : Leads L xname xname
      · have hde : decide (xname.data.toList ∈ sortL (lO6.map fun x => x.1.data.toList)) = true := decide_eq_true (hmm.2 hld)
        rw [hde] at hcon
        have HCON := Lib.hid hcon
        have HF := Lib.hid (HCODE.out 15 (fun _ => rfl) (fun h => absurd hld h))
        clear hcon hmm hld hde hb6 hbw6 ho6 hl6 hiff6 r3 e1 HCODE
        go_wp2_with fail
        (with_reducible refine HCON.out.mono ?_)
        rintro e w7 ⟨rfl, rfl⟩
        go_wp2_with (at_builtin; refine wpList_append_own _ rfl _ _ 62 rfl w4.heap.size 68 i0 (.agg #[.int .i64 0, .int .i64 0]) 2 16 Tryz.underlying62 hi hz0 hz1 hz2 rfl (by decide) _ _ _ rfl (owns_below' HOWN6.out (by (repeat (first | exact Below.refl _ _ | refine Below.drew ?_ | (refine below_gw' ?_ (by first | omega | (simp [go_sem]; done) | (simp [go_sem]; omega)) _) | (refine Below.alloc ?_ (by first | omega | (simp [go_sem]; done) | (simp [go_sem]; omega)) _) | (refine Below.setCell ?_ (by first | omega | (simp [go_sem]; done) | (simp [go_sem]; omega)) _))))) _ 1 1 [.int .i64 xline, .int .i64 15] rfl rfl ?d1 ?d2 ?d3 ?d4 ?d5 ?_)
        case d1 =>
          intro q u hq
          rw [addr_add]
          match q, hq with
          | 0, hq => simp at hq; subst hq; simp [go_sem]
          | 1, hq => simp at hq; subst hq; simp [go_sem]
        case d2 => first | exact ⟨rfl, rfl⟩ | (intro u hu; simp at hu; rcases hu with rfl | rfl <;> rfl) | rfl
        case d3 => unfold maxLen; omega
        case d4 => omega
        case d5 => (first | omega | (simp [go_sem]; done) | (simp [go_sem]; omega))
        intro v' w8 hown' hgrow _
        have hb' : Below w4.heap.size w4 w8 := (HB6.out.trans (Below.mono (show Below w7.heap.size w7 _ by (repeat (first | exact Below.refl _ _ | refine Below.drew ?_ | (refine below_gw' ?_ (by first | omega | (simp [go_sem]; done) | (simp [go_sem]; omega)) _) | (refine Below.alloc ?_ (by first | omega | (simp [go_sem]; done) | (simp [go_sem]; omega)) _) | (refine Below.setCell ?_ (by first | omega | (simp [go_sem]; done) | (simp [go_sem]; omega)) _)))) hszf)).grown hgrow (by (first | omega | (simp [go_sem]; done) | (simp [go_sem]; omega))) (own_low HOWN6.out)
        have HOWN8 := Lib.hid hown'; clear hown'
        have HB' := Lib.hid hb'; clear hb' hgrow
        go_wp2_with fail
        go_roundw
        case rel => exact ⟨k + 1, by omega, by go_num, by rw [HTK.out, List.flatMap_append, List.flatMap_singleton, HF.out]; exact HOWN8.out, HB'.out⟩
        case measure => simp [intOf]; omega
      · have hde : decide (xname.data.toList ∈ sortL (lO6.map fun x => x.1.data.toList)) = false := decide_eq_false (fun h => hld (hmm.1 h))
        rw [hde] at hcon
        have HCON := Lib.hid hcon
        have HF := Lib.hid (HCODE.out r.2 (fun h => absurd h hld) (fun _ => rfl))
        clear hcon hmm hld hde hb6 hbw6 ho6 hl6 hiff6 r3 e1 HCODE
        go_wp2_with fail
        (with_reducible refine HCON.out.mono ?_)
        rintro e w7 ⟨rfl, rfl⟩
        go_wp2_with (at_builtin; refine wpList_append_own _ rfl _ _ 62 rfl w4.heap.size 68 i0 (.agg #[.int .i64 0, .int .i64 0]) 2 16 Tryz.underlying62 hi hz0 hz1 hz2 rfl (by decide) _ _ _ rfl (owns_below' HOWN6.out (by (repeat (first | exact Below.refl _ _ | refine Below.drew ?_ | (refine below_gw' ?_ (by first | omega | (simp [go_sem]; done) | (simp [go_sem]; omega)) _) | (refine Below.alloc ?_ (by first | omega | (simp [go_sem]; done) | (simp [go_sem]; omega)) _) | (refine Below.setCell ?_ (by first | omega | (simp [go_sem]; done) | (simp [go_sem]; omega)) _))))) _ 1 1 [.int .i64 xline, .int .i64 r.2] rfl rfl ?d1 ?d2 ?d3 ?d4 ?d5 ?_)
        case d1 =>
          intro q u hq
          rw [addr_add]
          match q, hq with
          | 0, hq => simp at hq; subst hq; simp [go_sem]
          | 1, hq => simp at hq; subst hq; simp [go_sem]
        case d2 => first | exact ⟨rfl, rfl⟩ | (intro u hu; simp at hu; rcases hu with rfl | rfl <;> rfl) | rfl
        case d3 => unfold maxLen; omega
        case d4 => omega
        case d5 => (first | omega | (simp [go_sem]; done) | (simp [go_sem]; omega))
        intro v' w8 hown' hgrow _
        have hb' : Below w4.heap.size w4 w8 := (HB6.out.trans (Below.mono (show Below w7.heap.size w7 _ by (repeat (first | exact Below.refl _ _ | refine Below.drew ?_ | (refine below_gw' ?_ (by first | omega | (simp [go_sem]; done) | (simp [go_sem]; omega)) _) | (refine Below.alloc ?_ (by first | omega | (simp [go_sem]; done) | (simp [go_sem]; omega)) _) | (refine Below.setCell ?_ (by first | omega | (simp [go_sem]; done) | (simp [go_sem]; omega)) _)))) hszf)).grown hgrow (by (first | omega | (simp [go_sem]; done) | (simp [go_sem]; omega))) (own_low HOWN6.out)
        have HOWN8 := Lib.hid hown'; clear hown'
        have HB' := Lib.hid hb'; clear hb' hgrow
        go_wp2_with fail
        go_roundw
        case rel => exact ⟨k + 1, by omega, by go_num, by rw [HTK.out, List.flatMap_append, List.flatMap_singleton, HF.out]; exact HOWN8.out, HB'.out⟩
        case measure => simp [intOf]; omega
    · obtain rfl : k = P.length := by omega
      clear hbel hown
      go_wp2_with fail
      go_ret
      refine ⟨_, rfl, ?_, HB4.out.trans (HBEL.out.mono HB4.out.size)⟩
      have := Row.of_owns HOWN.out
      rw [List.take_length] at this
      rw [HPE.out]
      exact this
end Go.Proofs.YtnjpfhihbjihbaaGreatDoor

/- breadboardref20.Faults. -/
namespace Go.Proofs.YtnjpfhihbjihbaaGreatDoor
open Go.RowKit Go.Sort

open Go.ChangeMaps
/-- The cells of the reference's fault. -/
noncomputable def rflc (L : List Sy) (t : List UInt8) : List Value := [.int .i64 (lineOf L t), .string ⟨t.toArray⟩, .int .i64 (fcode L t)]
theorem rfaultInfo : (Tryz.prog.info? 70).map (fun i => (i.zero, i.size, i.bytes)) = some (some (.agg #[.int .i64 0, .string ⟨#[]⟩, .int .i64 0]), 3, 32) := by kernel_rfl
theorem missN_snoc (L : List Sy) (l : List (List UInt8)) (t : List UInt8) : missN L (l ++ [t]) = missN L l ++ if (Kn L ⟨t.toArray⟩).isSome = true then [] else [t] := by
  unfold missN
  rw [List.filter_append]
  congr 1
  cases h : (Kn L ⟨t.toArray⟩) <;> simp [h]
theorem keep4 {W w' : World} {a b i j k : Nat} {x y z : Value} (hb : Below W.heap.size W w') (ha : a < W.heap.size) (hc : b < W.heap.size) (h1 : W.cell? ⟨a, i, none⟩ = some x) (h2 : W.cell? ⟨a, j, none⟩ = some y) (h3 : W.cell? ⟨b, k, none⟩ = some z) (h4 : W.frozen? ⟨b, k, none⟩ = false) : w'.cell? ⟨a, i, none⟩ = some x ∧ w'.cell? ⟨a, j, none⟩ = some y ∧ w'.cell? ⟨b, k, none⟩ = some z ∧ w'.frozen? ⟨b, k, none⟩ = false :=
  ⟨(hb.cell (p := ⟨a, i, none⟩) ha).trans h1, (hb.cell (p := ⟨a, j, none⟩) ha).trans h2, (hb.cell (p := ⟨b, k, none⟩) hc).trans h3, (hb.frozen (p := ⟨b, k, none⟩) hc).trans h4⟩
theorem keep2s {W : World} {a b i j k : Nat} {x y v : Value} (hne : a ≠ b) (h1 : W.cell? ⟨a, i, none⟩ = some x) (h2 : W.cell? ⟨a, j, none⟩ = some y) : (W.setCell ⟨b, k, none⟩ v).cell? ⟨a, i, none⟩ = some x ∧ (W.setCell ⟨b, k, none⟩ v).cell? ⟨a, j, none⟩ = some y :=
  ⟨(World.cell?_setCell_far W ⟨b, k, none⟩ ⟨a, i, none⟩ v (fun e => hne e.symm)).trans h1, (World.cell?_setCell_far W ⟨b, k, none⟩ ⟨a, j, none⟩ v (fun e => hne e.symm)).trans h2⟩
/-- At the head of the reference's loop. -/
def RFLoop (L : List Sy) (B k : Nat) (w : World) (u : Value) (wr : World) : Prop :=
  ∃ F, wr.ownsRow B 70 3 u F.length (F.flatMap (rflc L)) ∧ SortedF L F ∧ F.Perm (missN L ((namesN L).take k)) ∧ F.length ≤ k ∧ Below w.heap.size w wr
theorem rflc_one (L : List Sy) (F : List (List UInt8)) : ∀ u ∈ F.flatMap (rflc L), u.oneCell' = true := fun u hu => by
  obtain ⟨x, _, hu⟩ := List.mem_flatMap.1 hu
  simp only [rflc, List.mem_cons, List.not_mem_nil, or_false] at hu
  rcases hu with rfl | rfl | rfl <;> rfl
theorem one3 {a b c : Value} (ha : a.oneCell' = true) (hb : b.oneCell' = true) (hc : c.oneCell' = true) : ∀ u ∈ [a, b, c], u.oneCell' = true := fun u hu => by
  simp only [List.mem_cons, List.not_mem_nil, or_false] at hu
  rcases hu with rfl | rfl | rfl <;> assumption
theorem one_src3 {w : World} {g : Nat} {a b c : Value} {T : TypeId} {r : Nat × Nat} (h : w.heap[g]? = some (Obj.cells #[a, b, c] T r)) : ∀ (j : Nat) (u : Value), [a, b, c][j]? = some u → w.cell? ((⟨g, 0, none⟩ : Addr).add j) = some u := fun j u hj => by
  rw [addr_add, Nat.zero_add, cell_at h j, ← hj]
  simp
theorem flat_take (L : List Sy) (F : List (List UInt8)) {a : Nat} (ha : a ≤ F.length) : ((F.take a).flatMap (rflc L)).length = a * 3 := by
  rw [flat_len (rflc L) 3 (fun _ => rfl), List.length_take, Nat.min_eq_left ha]
theorem flat_drop (L : List Sy) (F : List (List UInt8)) {a : Nat} (_ : a ≤ F.length) : ((F.drop a).flatMap (rflc L)).length = (F.length - a) * 3 := by
  rw [flat_len (rflc L) 3 (fun _ => rfl), List.length_drop]
/-- A part of a row of faults as the source of an append. -/
theorem src_part {w : World} {L : List Sy} {F : List (List UInt8)} {base co : Nat} {ao : Option Addr} (h : w.ownsRow base 70 3 (.slice ao F.length co) F.length (F.flatMap (rflc L))) :
    (ao = none ∧ F = [] ∧ co = 0) ∨ ∃ g, ao = some ⟨g, 0, none⟩ ∧ F.length ≤ co ∧ ∀ i u, (F.flatMap (rflc L))[i]? = some u → w.cell? ⟨g, i, none⟩ = some u := by
  obtain ⟨h1, h2⟩ := h
  rcases h2 with ⟨h3, h4⟩ | ⟨g, cap, cur, h3, hg, hh, hn, hcap, hcur, htk⟩
  · simp only [Value.slice.injEq] at h3
    exact .inl ⟨h3.1, List.eq_nil_of_length_eq_zero h4, h3.2.2⟩
  · simp only [Value.slice.injEq] at h3
    obtain ⟨rfl, _, rfl⟩ := h3
    refine .inr ⟨g, rfl, hn, fun i u hu => ?_⟩
    rw [← htk] at hu
    simp only [World.cell?, hh]
    have hi : i < F.length * 3 := by
      have := (List.getElem?_eq_some_iff.1 hu).1
      rw [List.length_take] at this
      omega
    rw [List.getElem?_take_of_lt hi] at hu
    simpa using hu
theorem src_lo {w : World} {L : List Sy} {F : List (List UInt8)} {base co a : Nat} {ao : Option Addr} (h : w.ownsRow base 70 3 (.slice ao F.length co) F.length (F.flatMap (rflc L))) (ha : a ≤ F.length) :
    SrcAt w (.slice ao a co) a ((F.take a).flatMap (rflc L)) := by
  have hfl := flat_take L F ha
  have htl := flat_len (rflc L) 3 (fun _ => rfl) F
  rcases src_part h with ⟨rfl, rfl, rfl⟩ | ⟨g, rfl, hco, hc⟩
  · have ha0 : a = 0 := Nat.le_zero.1 ha
    subst ha0
    exact .inl ⟨rfl, rfl⟩
  · refine .inr ⟨⟨g, 0, none⟩, co, rfl, fun j u hj => ?_⟩
    rw [addr_add, Nat.zero_add]
    apply hc
    rw [← List.take_append_drop a F, List.flatMap_append, List.getElem?_append_left (List.getElem?_eq_some_iff.1 hj).1]
    exact hj
theorem src_hi {w : World} {L : List Sy} {F : List (List UInt8)} {base co a : Nat} {ao : Option Addr} (h : w.ownsRow base 70 3 (.slice ao F.length co) F.length (F.flatMap (rflc L))) (ha : a ≤ F.length) :
    SrcAt w (.slice (if co = a then ao else ao.map (·.add (a * 3))) (F.length - a) (co - a)) (F.length - a) ((F.drop a).flatMap (rflc L)) := by
  have hfl := flat_drop L F ha
  rcases src_part h with ⟨rfl, rfl, rfl⟩ | ⟨g, rfl, hco, hc⟩
  · have ha0 : a = 0 := Nat.le_zero.1 ha
    subst ha0
    exact .inl ⟨rfl, rfl⟩
  · by_cases hca : co = a
    · have hla : F.length - a = 0 := by omega
      refine .inr ⟨⟨g, 0, none⟩, co - a, by rw [if_pos hca], fun j u hj => ?_⟩
      have := (List.getElem?_eq_some_iff.1 hj).1
      rw [hfl, hla] at this
      omega
    · refine .inr ⟨⟨g, a * 3, none⟩, co - a, by rw [if_neg hca, Option.map_some, addr_add, Nat.zero_add], fun j u hj => ?_⟩
      rw [addr_add]
      apply hc
      rw [← List.take_append_drop a F, List.flatMap_append, List.getElem?_append_right (by rw [flat_take L F ha]; omega), flat_take L F ha, show a * 3 + j - a * 3 = j by omega]
      exact hj
theorem rf_step {L : List Sy} {B k a : Nat} {w1 wq w4 : World} {F : List (List UInt8)} {t : List UInt8} {v4 : Value} (hB : B ≤ wq.heap.size)
    (hown : w4.ownsRow wq.heap.size 70 3 v4 (a + 1 + (F.length - a)) (((F.take a).flatMap (rflc L) ++ rflc L t) ++ (F.drop a).flatMap (rflc L))) (ha : a ≤ F.length) (hs : SortedF L F) (hp : F.Perm (missN L ((namesN L).take k)))
    (hn : missN L ((namesN L).take (k + 1)) = missN L ((namesN L).take k) ++ [t]) (hl : F.length ≤ k) (hhi : ∀ x ∈ F.drop a, ltF L t x = true) (hlo : a = 0 ∨ ∃ x, F[a - 1]? = some x ∧ ltF L t x = false) (hb : Below w1.heap.size w1 w4) : RFLoop L B (k + 1) w1 v4 w4 := by
  obtain ⟨h1, h2⟩ := insF_spec hs ha hhi hlo
  have hlen : (F.take a ++ t :: F.drop a).length = a + 1 + (F.length - a) := by
    rw [List.length_append, List.length_cons, List.length_take, List.length_drop, Nat.min_eq_left ha]; omega
  refine ⟨F.take a ++ t :: F.drop a, ?_, h1, ?_, by rw [hlen]; omega, hb⟩
  · rw [hlen, List.flatMap_append, List.flatMap_cons, ← List.append_assoc]
    exact own_base hown hB
  · rw [hn]
    refine h2.trans ((hp.cons t).trans ?_)
    exact (List.perm_append_singleton t _).symm
set_option maxHeartbeats 8000000 in
set_option maxRecDepth 100000 in
theorem rfaults_any (R : List (Sy × Value)) (hok : ∀ x ∈ R, SyOk x.1) (hl : R.length ≤ 1000) (hnd : ((R.map Prod.fst).map Sy.name).Nodup) (v : Value) (w : World) (hr : RTab w v R) :
    Calls Tryz.prog 30 #[v] w fun e w' => ∃ vo F, e = .returned vo ∧ Row w' vo F.length (F.flatMap (rflc (R.map Prod.fst))) ∧ SortedF (R.map Prod.fst) F ∧ F.Perm (missN (R.map Prod.fst) (namesN (R.map Prod.fst))) ∧ Below w.heap.size w w' := by
  obtain ⟨i0, hi, hz0, hz1, hz2⟩ := info_parts rfaultInfo
  have hkn := known20_any R v w hr hl hok hnd
  obtain ⟨a, cap, rfl, hcap, hc⟩ := hr.parts
  obtain ⟨L, hL⟩ : ∃ L, R.map Prod.fst = L := ⟨_, rfl⟩
  rw [hL] at hkn hnd ⊢
  have hLR : L.length = R.length := by rw [← hL, List.length_map]
  have hkl := knownR_len hnd
  have hl1 : (R.length : Int) ≤ 1000 := by omega
  have hc1 : (R.length : Int) ≤ (cap : Int) := by omega
  have HLR : Hid (∀ l : List (List UInt8), l.length ≤ L.length → l.length ≤ 1000000) := Lib.hid fun l h => by omega
  have HL := Lib.hid hL
  have HC := Lib.hid hc
  have HR := Lib.hid hr
  have HOK := Lib.hid hok
  have HND := Lib.hid hnd
  have HKN := Lib.hid hkn
  clear hc hr hL hok hnd hkn
  go_enter Tryz.func30, Tryz.ntmps30
  go_wp2_with fail
  (with_reducible refine HKN.out.mono ?_)
  rintro e w1 ⟨vk, rfl, hrk, hb1⟩
  have HRK := Lib.hid hrk
  have HB1 := Lib.hid hb1
  have HR1 := Lib.hid (HR.out.below hb1)
  have hsz1 := hb1.size
  clear hrk hb1 HKN
  go_wp2_with fail
  go_loopw [4, 5] (fun u i wr => ∃ k : Nat, k ≤ R.length ∧ i = .int .i64 k ∧ RFLoop L w1.heap.size k w1 u wr) (fun _ i _ => R.length - (intOf i).toNat)
  case atStart => exact ⟨0, Nat.zero_le _, rfl, [], World.ownsRow_nil _ _ _ _, List.Pairwise.nil, List.Perm.refl _, Nat.zero_le _, Below.refl _ _⟩
  case round =>
    obtain ⟨k, hk, rfl, F, hown, hsf, hpf, hfk, hbel⟩ := hrel
    have HOWN := Lib.hid hown
    have HSF := Lib.hid hsf
    have HPF := Lib.hid hpf
    have HBEL := Lib.hid hbel
    have hszr : w1.heap.size ≤ wr.heap.size := hbel.size
    have hfl : (F.length : Int) ≤ 1000 := by omega
    by_cases hlt : k < R.length
    · obtain ⟨x, hx⟩ : ∃ x, R[k]? = some x := ⟨_, List.getElem?_eq_getElem hlt⟩
      obtain ⟨gr, o, rfl, hgr, hcs⟩ := HC.out (by rintro rfl; simp at hx)
      obtain ⟨e0, e1, e2, e3, e4⟩ := hcs k x hx
      have hb1r : Below w.heap.size w wr := HB1.out.trans (hbel.mono hsz1)
      have f0 := (hb1r.cell (p := ⟨gr, o + k * 5, none⟩) hgr).trans e0
      have f2 := (hb1r.cell (p := ⟨gr, o + k * 5 + 2, none⟩) hgr).trans e2
      have f3 := (hb1r.cell (p := ⟨gr, o + k * 5 + 3, none⟩) hgr).trans e3
      have f4 := (hb1r.cell (p := ⟨gr, o + k * 5 + 4, none⟩) hgr).trans e4
      have hgw : gr < wr.heap.size := cell_lt f0
      have hno : OptAt 89 wr x.1.ex x.2 := (HR.out.2 x (List.mem_of_getElem? hx)).below hb1r
      have hsok := HOK.out x (List.mem_of_getElem? hx)
      have hfs : sfindS L x.1.name = some x.1 := sfindS_mem HND.out (by rw [← HL.out]; exact List.mem_map_of_mem (List.mem_of_getElem? hx))
      have htk : (namesN L).take (k + 1) = (namesN L).take k ++ [x.1.name.data.toList] := by
        rw [List.take_add_one]
        congr 1
        unfold namesN
        rw [← HL.out, List.getElem?_map, List.getElem?_map, hx]
        rfl
      have hhas := has20_any (knownR L) x.1.name vk wr (HRK.out.below hbel) (by omega)
      rw [knownR_env HND.out] at hhas
      have hi0 : (0 : Int) ≤ (k : Int) := by omega
      have hi1 : (k : Int) < (R.length : Int) := by omega
      have HHAS := Lib.hid hhas
      have HTK := Lib.hid htk
      have HFS := Lib.hid hfs
      have HNO := Lib.hid hno
      have HOK1 := Lib.hid hsok
      have HR2 := Lib.hid (HR1.out.below hbel)
      clear hown hsf hpf hbel hcs e0 e1 e2 e3 e4 hb1r hno hsok hfs htk hhas hx
      obtain ⟨⟨name, n, ex, here, line⟩, xv⟩ := x
      dsimp only at *
      cases hkn : Kn L name with
      | some q =>
        have HN : Hid (missN L ((namesN L).take (k + 1)) = missN L ((namesN L).take k)) := Lib.hid (by
          rw [HTK.out, missN_snoc]
          simp [hkn])
        rw [hkn] at HHAS
        clear hkn
        go_wp2_with fail
        (with_reducible refine HHAS.out.mono ?_)
        rintro e w2 ⟨rfl, hb2⟩
        have HB2 : Hid (Below w1.heap.size w1 w2) := Lib.hid (HBEL.out.trans (hb2.mono hszr))
        have HOWN2 := Lib.hid (owns_below' HOWN.out hb2)
        clear hb2
        go_wp2_with fail
        go_roundw
        case rel => exact ⟨k + 1, by omega, by go_num, F, HOWN2.out, HSF.out, by rw [HN.out]; exact HPF.out, by omega, HB2.out⟩
        case measure => simp [intOf]; omega
      | none =>
        have HN : Hid (missN L ((namesN L).take (k + 1)) = missN L ((namesN L).take k) ++ [name.data.toList]) := Lib.hid (by
          rw [HTK.out, missN_snoc]
          simp [hkn])
        obtain ⟨y, hy⟩ := miss_ex (s := ⟨name, n, ex, here, line⟩) HFS.out hkn
        dsimp only at hy
        subst hy
        rw [hkn] at HHAS
        obtain ⟨q, rfl⟩ : ∃ q, xv = .pointer (some q) := by obtain ⟨g, h, _⟩ := NodeAt.ptr HNO.out; exact ⟨_, h⟩
        clear hkn
        go_wp2_with fail
        (with_reducible refine HHAS.out.mono ?_)
        rintro e w2 ⟨rfl, hb2⟩
        have HB2 : Hid (Below w1.heap.size w1 w2) := Lib.hid (HBEL.out.trans (hb2.mono hszr))
        have HOWN2 := Lib.hid (owns_below' HOWN.out hb2)
        have HNO2 := Lib.hid (HNO.out.below hb2)
        have HR3 := Lib.hid (HR2.out.below hb2)
        have g0 := (hb2.cell (p := ⟨gr, o + k * 5, none⟩) hgw).trans f0
        have g2 := (hb2.cell (p := ⟨gr, o + k * 5 + 2, none⟩) hgw).trans f2
        have g3 := (hb2.cell (p := ⟨gr, o + k * 5 + 3, none⟩) hgw).trans f3
        have g4 := (hb2.cell (p := ⟨gr, o + k * 5 + 4, none⟩) hgw).trans f4
        have hgw2 := cell_lt g0
        have hsz2 := hb2.size
        clear hb2 f0 f2 f3 f4 HOWN HNO HR2
        go_wp2_with fail
        go_region
        go_wp2_with fail
        obtain ⟨U, hU⟩ : ∃ U, (w2.alloc (.cells #[.int .i64 line, .string name, .int .i64 15] 70)).drew = U := ⟨_, rfl⟩
        have hbU : Below w2.heap.size w2 U := by rw [← hU]; (repeat (first | exact Below.refl _ _ | refine Below.drew ?_ | (refine below_gw' ?_ (by first | omega | (simp [go_sem]; done) | (simp [go_sem]; omega)) _) | (refine Below.alloc ?_ (by first | omega | (simp [go_sem]; done) | (simp [go_sem]; omega)) _) | (refine Below.setCell ?_ (by first | omega | (simp [go_sem]; done) | (simp [go_sem]; omega)) _)))
        have hCU : U.heap[w2.heap.size]? = some (.cells #[.int .i64 line, .string name, .int .i64 15] 70 (0, 0)) := by rw [← hU]; exact alloc_at' w2 _
        rw [hU]
        have k0 := (hbU.cell (p := ⟨gr, o + k * 5, none⟩) hgw2).trans g0
        have k2 := (hbU.cell (p := ⟨gr, o + k * 5 + 2, none⟩) hgw2).trans g2
        have k3 := (hbU.cell (p := ⟨gr, o + k * 5 + 3, none⟩) hgw2).trans g3
        have hltU : w2.heap.size < U.heap.size := lt_of_block hCU
        have hgU : gr < U.heap.size := by omega
        have hrow1 : ∀ W : World, W.heap[U.heap.size]? = some (.cells #[.string name] 9 (0, 0)) → Row W (.slice (some ⟨U.heap.size, 0, none⟩) 1 1) [name.data.toList].length ([name.data.toList].map Proofs.encStr) := fun W hW => ⟨_, 1, rfl, Nat.le_refl _, fun _ => ⟨U.heap.size, 0, rfl, lt_of_block hW, fun j hj => by
          have hj0 : j = 0 := by simp at hj; exact hj
          subst hj0
          rw [cell_at hW]
          simp [Proofs.encStr]⟩⟩
        have hus : Calls Tryz.prog 23 #[.slice (some ⟨gr, o, none⟩) R.length cap, .slice (some ⟨U.heap.size, 0, none⟩) 1 1] (U.alloc (.cells #[.string name] 9)).drew (RUseRes L [name.data.toList] (U.alloc (.cells #[.string name] 9)).drew) := by
          have h := ruses_any R HOK.out hl [name.data.toList] (by simp) (.slice (some ⟨gr, o, none⟩) R.length cap) (.slice (some ⟨U.heap.size, 0, none⟩) 1 1) (U.alloc (.cells #[.string name] 9)).drew ((HR3.out.below hbU).below (show Below U.heap.size U _ by (repeat (first | exact Below.refl _ _ | refine Below.drew ?_ | (refine below_gw' ?_ (by first | omega | (simp [go_sem]; done) | (simp [go_sem]; omega)) _) | (refine Below.alloc ?_ (by first | omega | (simp [go_sem]; done) | (simp [go_sem]; omega)) _) | (refine Below.setCell ?_ (by first | omega | (simp [go_sem]; done) | (simp [go_sem]; omega)) _))))) (hrow1 _ (alloc_at' U _)) (.inr ⟨_, _, _, rfl⟩)
          rw [HL.out] at h
          exact h
        unfold RUseRes at hus
        have HUS := Lib.hid hus
        have HBU := Lib.hid hbU
        have HCU := Lib.hid hCU
        clear hU hbU hCU hrow1 hus g0 g2 g3 g4
        go_region_held3 (fun w' => w'.cell? ⟨gr, o + k * 5, none⟩ = some (.string name)) (first | exact k0 | exact K1 | exact K2 | exact (Below.cell (p := ⟨gr, o + k * 5, none⟩) (show Below U.heap.size U _ by (repeat (first | exact Below.refl _ _ | refine Below.drew ?_ | (refine below_gw' ?_ (by first | omega | (simp [go_sem]; done) | (simp [go_sem]; omega)) _) | (refine Below.alloc ?_ (by first | omega | (simp [go_sem]; done) | (simp [go_sem]; omega)) _) | (refine Below.setCell ?_ (by first | omega | (simp [go_sem]; done) | (simp [go_sem]; omega)) _)))) hgU).trans k0) (first | ((with_reducible refine HUS.out.mono ?_); rintro e w4 ⟨vo4, out4, rfl, hown4, hnl4, hnd4, hln4, hseen4, hb4⟩; have hbU4 : Below U.heap.size U w4 := Below.trans (b := (U.alloc (.cells #[.string name] 9)).drew) (by (repeat (first | exact Below.refl _ _ | refine Below.drew ?_ | (refine below_gw' ?_ (by first | omega | (simp [go_sem]; done) | (simp [go_sem]; omega)) _) | (refine Below.alloc ?_ (by first | omega | (simp [go_sem]; done) | (simp [go_sem]; omega)) _) | (refine Below.setCell ?_ (by first | omega | (simp [go_sem]; done) | (simp [go_sem]; omega)) _)))) (hb4.mono (by show _ ≤ (U.heap.push _).size; simp)); have K1 := (hbU4.cell (p := ⟨gr, o + k * 5, none⟩) hgU).trans k0; have hl4 : out4.length ≤ 1000000 := HLR.out out4 hln4) | ((with_reducible refine (in20_any out4 name vo4 w4 (Row.of_owns hown4) hl4).mono ?_); rintro e w5 ⟨rfl, hb5⟩; have K2 := (hb5.cell (p := ⟨gr, o + k * 5, none⟩) (Nat.lt_of_lt_of_le hgU hbU4.size)).trans K1))
        have hmm : decide (name.data.toList ∈ out4) = true ↔ Leads L name name := by
          rw [decide_eq_true_eq, hseen4]
          constructor
          · rintro ⟨nm, hnm, h⟩
            rw [List.mem_singleton] at hnm
            subst hnm
            simpa using h
          · intro h
            exact ⟨_, List.mem_singleton.2 rfl, by simpa using h⟩
        obtain ⟨bl, hbl⟩ : ∃ bl, decide (name.data.toList ∈ out4) = bl := ⟨_, rfl⟩
        rw [hbl] at hmm ⊢
        have hbU5 : Below U.heap.size U w5 := hbU4.trans (hb5.mono hbU4.size)
        have i0 := (hbU5.cell (p := ⟨w2.heap.size, 0, none⟩) hltU).trans (cell_at HCU.out 0)
        have i1 := (hbU5.cell (p := ⟨w2.heap.size, 1, none⟩) hltU).trans (cell_at HCU.out 1)
        have i2 := (hbU5.cell (p := ⟨w2.heap.size, 2, none⟩) hltU).trans (cell_at HCU.out 2)
        have i3 : w5.frozen? ⟨w2.heap.size, 2, none⟩ = false := (hbU5.frozen (p := ⟨w2.heap.size, 2, none⟩) hltU).trans (by simp [World.frozen?, HCU.out])
        have r2 := (hbU5.cell (p := ⟨gr, o + k * 5 + 2, none⟩) hgU).trans k2
        have r3 := (hbU5.cell (p := ⟨gr, o + k * 5 + 3, none⟩) hgU).trans k3
        have hgr5 := cell_lt r2
        have hlt5 := cell_lt i0
        have HMM := Lib.hid hmm
        have HB5 : Hid (Below w2.heap.size w2 w5) := Lib.hid (HBU.out.trans (hbU5.mono (Nat.le_of_lt hltU)))
        clear hbl hmm hbU4 hb5 hb4 hbU5 K1 K2 hl4 hown4 hnd4 hln4 hseen4 hnl4 k0 k2 k3 hltU hgU HUS HCU HBU
        go_upto_if 48 with fail
        go_cut [] from 49 to 64 (fun wx => wx.cell? ⟨w2.heap.size, 0, none⟩ = some (.int .i64 line) ∧ wx.cell? ⟨w2.heap.size, 1, none⟩ = some (.string name) ∧ wx.cell? ⟨w2.heap.size, 2, none⟩ = some (.int .i64 (fcode L name.data.toList)) ∧ Below w2.heap.size w2 wx)
        case first =>
          have est : (⟨name.data.toList.toArray⟩ : ByteArray) = name := by simp
          cases bl with
          | true =>
            have hfc : fcode L name.data.toList = 15 := by unfold fcode; rw [est, if_pos (HMM.out.1 rfl)]
            have HFC := Lib.hid hfc
            clear hfc
            go_wp2_with fail
            go_meet
            case rel => exact ⟨i0, i1, by rw [HFC.out]; exact i2, HB5.out⟩
          | false =>
            have hfc : fcode L name.data.toList = (y.eval (Kn L) here).2 := by
              unfold fcode
              rw [est, if_neg (fun h => by have := HMM.out.2 h; cases this), HFS.out]
              rfl
            have hev := fun vv ww hn hm => reval_any (knownR L) here (by omega) (fun s n h => by
              rw [knownR_env HND.out] at h
              exact Kn_in (L := L) (fun s hs => by rw [← HL.out] at hs; obtain ⟨x, hx, rfl⟩ := List.mem_map.1 hs; exact HOK.out x hx) s n h) HOK1.out.2.1 vk y (HOK1.out.2.2 y rfl).1 vv ww hn hm
            unfold EvRes at hev
            rw [knownR_env HND.out] at hev
            have hnn : NodeAt 89 0 w5 y (.pointer (some q)) := HNO2.out.below HB5.out
            have hrk5 := (HRK.out.below HB2.out).below HB5.out
            generalize y.eval (Kn L) here = r at hfc hev
            have HFC := Lib.hid hfc
            have HEV := Lib.hid hev
            have HNN := Lib.hid hnn
            have HRK5 := Lib.hid hrk5
            clear hfc hev hnn hrk5
            go_wp2_with fail
            have hneg : gr ≠ w2.heap.size := Nat.ne_of_lt hgw2
            go_region_held3 (fun w' => w'.cell? ⟨gr, o + k * 5 + 2, none⟩ = some (.pointer (some q)) ∧ w'.cell? ⟨gr, o + k * 5 + 3, none⟩ = some (.int .i64 here)) (first | exact ⟨r2, r3⟩ | exact ⟨K6a, K6b⟩ | exact keep2s hneg K6a K6b) (first | ((with_reducible refine (HEV.out _ _ (HNN.out.below (by (repeat (first | exact Below.refl _ _ | refine Below.drew ?_ | (refine below_gw' ?_ (by first | omega | (simp [go_sem]; done) | (simp [go_sem]; omega)) _) | (refine Below.alloc ?_ (by first | omega | (simp [go_sem]; done) | (simp [go_sem]; omega)) _) | (refine Below.setCell ?_ (by first | omega | (simp [go_sem]; done) | (simp [go_sem]; omega)) _))))) (HRK5.out.below (by (repeat (first | exact Below.refl _ _ | refine Below.drew ?_ | (refine below_gw' ?_ (by first | omega | (simp [go_sem]; done) | (simp [go_sem]; omega)) _) | (refine Below.alloc ?_ (by first | omega | (simp [go_sem]; done) | (simp [go_sem]; omega)) _) | (refine Below.setCell ?_ (by first | omega | (simp [go_sem]; done) | (simp [go_sem]; omega)) _)))))).mono ?_); rintro e w6 ⟨rfl, hb6⟩; have hbw6 : Below w5.heap.size w5 w6 := Below.trans (b := w5.drew) (by (repeat (first | exact Below.refl _ _ | refine Below.drew ?_ | (refine below_gw' ?_ (by first | omega | (simp [go_sem]; done) | (simp [go_sem]; omega)) _) | (refine Below.alloc ?_ (by first | omega | (simp [go_sem]; done) | (simp [go_sem]; omega)) _) | (refine Below.setCell ?_ (by first | omega | (simp [go_sem]; done) | (simp [go_sem]; omega)) _)))) hb6; obtain ⟨K6a, K6b, K6c, K6d⟩ := keep4 hbw6 hgr5 hlt5 r2 r3 i2 i3))
            have hb6' : Below w2.heap.size w2 (w6.setCell ⟨w2.heap.size, 2, none⟩ (.int .i64 r.2)) := Below.setCell (HB5.out.trans (hbw6.mono HB5.out.size)) (Nat.le_refl _) _
            have j0 : (w6.setCell ⟨w2.heap.size, 2, none⟩ (.int .i64 r.2)).cell? ⟨w2.heap.size, 0, none⟩ = some (.int .i64 line) := (World.cell?_setCell_other _ _ _ _ (by simp)).trans ((hbw6.cell (p := ⟨w2.heap.size, 0, none⟩) hlt5).trans i0)
            have j1 : (w6.setCell ⟨w2.heap.size, 2, none⟩ (.int .i64 r.2)).cell? ⟨w2.heap.size, 1, none⟩ = some (.string name) := (World.cell?_setCell_other _ _ _ _ (by simp)).trans ((hbw6.cell (p := ⟨w2.heap.size, 1, none⟩) hlt5).trans i1)
            have j2 : (w6.setCell ⟨w2.heap.size, 2, none⟩ (.int .i64 r.2)).cell? ⟨w2.heap.size, 2, none⟩ = some (.int .i64 r.2) := World.cell?_setCell_same _ _ _ K6c
            go_wp2_with fail
            go_meet
            case rel => exact ⟨j0, j1, by rw [HFC.out]; exact j2, hb6'⟩
        case rest =>
          obtain ⟨m0, m1, m2, hbc⟩ := hcut
          obtain ⟨cd, hcd⟩ : ∃ c, fcode L name.data.toList = c := ⟨_, rfl⟩
          rw [hcd] at m2
          have hlnx : lineOf L name.data.toList = line := by
            unfold lineOf
            rw [show (⟨name.data.toList.toArray⟩ : ByteArray) = name by simp, HFS.out]
          have HOWNC := Lib.hid (owns_below' HOWN2.out hbc)
          have HBC : Hid (Below w1.heap.size w1 wc) := Lib.hid (HB2.out.trans (hbc.mono HB2.out.size))
          have hcell : [Value.int .i64 line, .string name, .int .i64 cd] = rflc L name.data.toList := by
            unfold rflc
            rw [hlnx, hcd]
          have HCE := Lib.hid hcell
          have HLN := Lib.hid hlnx
          have hltc : w2.heap.size < wc.heap.size := cell_lt m0
          have hszc : w1.heap.size ≤ wc.heap.size := HBC.out.size
          obtain ⟨fb, hfb⟩ : ∃ fb, w2.heap.size = fb := ⟨_, rfl⟩
          have hfb1 : w1.heap.size ≤ fb := by rw [← hfb]; exact HB2.out.size
          rw [hfb] at m0 m1 m2 hltc ⊢
          obtain ⟨ao, co, rfl, hco, hcs⟩ := (Row.of_owns HOWNC.out).structs (rflc L) 3 (fun _ => rfl) (by decide)
          have HCS := Lib.hid hcs
          have hfl2 : (F.length : Int) ≤ (co : Int) := by omega
          clear i0 i1 i2 i3 r2 r3 hgr5 hlt5 hbc hcd hlnx hcell hcs HOWN2 HNO2 HR3 HMM HB5 hgw2
          go_wp2_with fail
          go_loopw [7] (fun i wr => ∃ a : Nat, a ≤ F.length ∧ i = .int .i64 a ∧ Below wc.heap.size wc wr ∧ ∀ x ∈ F.drop a, ltF L name.data.toList x = true) (fun i _ => (intOf i).toNat)
          case atStart => exact ⟨F.length, Nat.le_refl _, rfl, Below.refl _ _, fun x hx => by simp at hx⟩
          case round =>
            obtain ⟨a, ha, rfl, hbl, hhi⟩ := hrel
            have HBL := Lib.hid hbl
            have HHI := Lib.hid hhi
            have c0 := (hbl.cell (p := ⟨fb, 0, none⟩) hltc).trans m0
            have c1 := (hbl.cell (p := ⟨fb, 1, none⟩) hltc).trans m1
            have c2 := (hbl.cell (p := ⟨fb, 2, none⟩) hltc).trans m2
            have hltr := cell_lt c0
            have hszl := hbl.size
            have haI : (a : Int) ≤ (F.length : Int) := by omega
            have haC : (a : Int) ≤ (co : Int) := by omega
            have ha0 : (0 : Int) ≤ (a : Int) := by omega
            clear hbl hhi
            rcases Nat.eq_zero_or_pos a with hz | hz
            · have hqp : decide ((0 : Int) < (a : Int)) = false := decide_eq_false (by omega)
              have hqp2 : decide (0 < a) = false := decide_eq_false (by omega)
              have HLO : Hid (a = 0 ∨ ∃ x, F[a - 1]? = some x ∧ ltF L name.data.toList x = false) := Lib.hid (.inl hz)
              clear hz
              go_wp2_with fail
              go_quiet (fail)
              go_wp2_with fail
              obtain ⟨wq, hwq⟩ : ∃ wq, wr.drewN nq = wq := ⟨_, rfl⟩
              have hbq : Below wr.heap.size wr wq := by rw [← hwq]; exact ⟨rfl, rfl, rfl, Nat.le_refl _, fun _ _ => rfl⟩
              rw [hwq]
              have q0 := (hbq.cell (p := ⟨fb, 0, none⟩) hltr).trans c0
              have q1 := (hbq.cell (p := ⟨fb, 1, none⟩) hltr).trans c1
              have q2 := (hbq.cell (p := ⟨fb, 2, none⟩) hltr).trans c2
              have hltq := cell_lt q0
              have HBQ : Hid (Below w1.heap.size w1 wq) := Lib.hid ((HBC.out.trans (HBL.out.mono hszc)).trans (hbq.mono (Nat.le_trans hszc hszl)))
              have HOQ := Lib.hid (owns_below' (owns_below' HOWNC.out HBL.out) hbq)
              have hszq := HBQ.out.size
              clear hwq hbq c0 c1 c2
              go_region_law (first
                | (refine step_append_src (by rfl) _ _ 66 (by rfl) wq.heap.size 70 i0 (.agg #[.int .i64 0, .string ⟨#[]⟩, .int .i64 0]) 3 32 Tryz.underlying66 hi hz0 hz1 hz2 rfl (by decide) _ 0 [] (by rfl) (own_empty (by first | exact alloc_at' _ _ | exact alloc_at2 _ _ _ | exact alloc_at3 _ _ _) (by omega)) _ a ((F.take a).flatMap (rflc L)) (by rfl) (src_lo (owns_below' HOQ.out (by (repeat (first | exact Below.refl _ _ | refine Below.drew ?_ | (refine below_gw' ?_ (by first | omega | (simp [go_sem]; done) | (simp [go_sem]; omega)) _) | (refine Below.alloc ?_ (by first | omega | (simp [go_sem]; done) | (simp [go_sem]; omega)) _) | (refine Below.setCell ?_ (by first | omega | (simp [go_sem]; done) | (simp [go_sem]; omega)) _))))) ha) (flat_take L F ha) (rflc_one L _) (by unfold maxLen; omega) (by omega) (Below.size (show Below wq.heap.size wq _ by (repeat (first | exact Below.refl _ _ | refine Below.drew ?_ | (refine below_gw' ?_ (by first | omega | (simp [go_sem]; done) | (simp [go_sem]; omega)) _) | (refine Below.alloc ?_ (by first | omega | (simp [go_sem]; done) | (simp [go_sem]; omega)) _) | (refine Below.setCell ?_ (by first | omega | (simp [go_sem]; done) | (simp [go_sem]; omega)) _))))) ?_; intro v2 x2 hown2 hgrow2 hnil2; simp only [Nat.zero_add, List.nil_append] at hown2; have hb2 : Below wq.heap.size wq x2 := Below.grown (show Below wq.heap.size wq _ by (repeat (first | exact Below.refl _ _ | refine Below.drew ?_ | (refine below_gw' ?_ (by first | omega | (simp [go_sem]; done) | (simp [go_sem]; omega)) _) | (refine Below.alloc ?_ (by first | omega | (simp [go_sem]; done) | (simp [go_sem]; omega)) _) | (refine Below.setCell ?_ (by first | omega | (simp [go_sem]; done) | (simp [go_sem]; omega)) _)))) hgrow2 (Below.size (show Below wq.heap.size wq _ by (repeat (first | exact Below.refl _ _ | refine Below.drew ?_ | (refine below_gw' ?_ (by first | omega | (simp [go_sem]; done) | (simp [go_sem]; omega)) _) | (refine Below.alloc ?_ (by first | omega | (simp [go_sem]; done) | (simp [go_sem]; omega)) _) | (refine Below.setCell ?_ (by first | omega | (simp [go_sem]; done) | (simp [go_sem]; omega)) _))))) (fun q hq => by have h := Option.some.inj hq; dsimp only at h; omega); have n0 := (hb2.cell (p := ⟨fb, 0, none⟩) hltq).trans q0; have n1 := (hb2.cell (p := ⟨fb, 1, none⟩) hltq).trans q1; have n2 := (hb2.cell (p := ⟨fb, 2, none⟩) hltq).trans q2)
                | (refine step_append_src (by rfl) _ _ 66 (by rfl) wq.heap.size 70 i0 (.agg #[.int .i64 0, .string ⟨#[]⟩, .int .i64 0]) 3 32 Tryz.underlying66 hi hz0 hz1 hz2 rfl (by decide) v2 a ((F.take a).flatMap (rflc L)) (by rfl) (owns_below' hown2 (by (repeat (first | exact Below.refl _ _ | refine Below.drew ?_ | (refine below_gw' ?_ (by first | omega | (simp [go_sem]; done) | (simp [go_sem]; omega)) _) | (refine Below.alloc ?_ (by first | omega | (simp [go_sem]; done) | (simp [go_sem]; omega)) _) | (refine Below.setCell ?_ (by first | omega | (simp [go_sem]; done) | (simp [go_sem]; omega)) _))))) _ 1 [.int .i64 line, .string name, .int .i64 cd] (by rfl) (.inr ⟨_, 1, rfl, one_src3 (by first | exact alloc_at' x2 _ | exact (hgrow2.block _ (by show _ < (Array.push (Array.push _ _) _).size; simp) (by simp [Value.ownBlock])).trans (alloc_at3 _ _ _) | exact (hgrow2.block _ (by show _ < (Array.push (Array.push _ _) _).size; simp; omega) (by simp [Value.ownBlock])).trans (alloc_at2 _ _ _))⟩) (by rfl) (one3 (by rfl) (by rfl) (by rfl)) (by unfold maxLen; omega) (by omega) (Nat.le_trans hb2.size (Below.size (show Below x2.heap.size x2 _ by (repeat (first | exact Below.refl _ _ | refine Below.drew ?_ | (refine below_gw' ?_ (by first | omega | (simp [go_sem]; done) | (simp [go_sem]; omega)) _) | (refine Below.alloc ?_ (by first | omega | (simp [go_sem]; done) | (simp [go_sem]; omega)) _) | (refine Below.setCell ?_ (by first | omega | (simp [go_sem]; done) | (simp [go_sem]; omega)) _)))))) ?_; intro v3 x3 hown3 hgrow3 hnil3; have hb3 : Below wq.heap.size wq x3 := Below.grown (hb2.trans (Below.mono (show Below x2.heap.size x2 _ by (repeat (first | exact Below.refl _ _ | refine Below.drew ?_ | (refine below_gw' ?_ (by first | omega | (simp [go_sem]; done) | (simp [go_sem]; omega)) _) | (refine Below.alloc ?_ (by first | omega | (simp [go_sem]; done) | (simp [go_sem]; omega)) _) | (refine Below.setCell ?_ (by first | omega | (simp [go_sem]; done) | (simp [go_sem]; omega)) _)))) hb2.size)) hgrow3 (Nat.le_trans hb2.size (Below.size (show Below x2.heap.size x2 _ by (repeat (first | exact Below.refl _ _ | refine Below.drew ?_ | (refine below_gw' ?_ (by first | omega | (simp [go_sem]; done) | (simp [go_sem]; omega)) _) | (refine Below.alloc ?_ (by first | omega | (simp [go_sem]; done) | (simp [go_sem]; omega)) _) | (refine Below.setCell ?_ (by first | omega | (simp [go_sem]; done) | (simp [go_sem]; omega)) _)))))) (own_low hown2))
                | (refine step_append_src (by rfl) _ _ 66 (by rfl) wq.heap.size 70 i0 (.agg #[.int .i64 0, .string ⟨#[]⟩, .int .i64 0]) 3 32 Tryz.underlying66 hi hz0 hz1 hz2 rfl (by decide) v3 (a + 1) ((F.take a).flatMap (rflc L) ++ [.int .i64 line, .string name, .int .i64 cd]) (by rfl) (owns_below' hown3 (by (repeat (first | exact Below.refl _ _ | refine Below.drew ?_ | (refine below_gw' ?_ (by first | omega | (simp [go_sem]; done) | (simp [go_sem]; omega)) _) | (refine Below.alloc ?_ (by first | omega | (simp [go_sem]; done) | (simp [go_sem]; omega)) _) | (refine Below.setCell ?_ (by first | omega | (simp [go_sem]; done) | (simp [go_sem]; omega)) _))))) _ (F.length - a) ((F.drop a).flatMap (rflc L)) (by rfl) (src_hi (owns_below' HOQ.out (hb3.trans (Below.mono (show Below x3.heap.size x3 _ by (repeat (first | exact Below.refl _ _ | refine Below.drew ?_ | (refine below_gw' ?_ (by first | omega | (simp [go_sem]; done) | (simp [go_sem]; omega)) _) | (refine Below.alloc ?_ (by first | omega | (simp [go_sem]; done) | (simp [go_sem]; omega)) _) | (refine Below.setCell ?_ (by first | omega | (simp [go_sem]; done) | (simp [go_sem]; omega)) _)))) hb3.size))) ha) (flat_drop L F ha) (rflc_one L _) (by unfold maxLen; omega) (by omega) (Nat.le_trans hb3.size (Below.size (show Below x3.heap.size x3 _ by (repeat (first | exact Below.refl _ _ | refine Below.drew ?_ | (refine below_gw' ?_ (by first | omega | (simp [go_sem]; done) | (simp [go_sem]; omega)) _) | (refine Below.alloc ?_ (by first | omega | (simp [go_sem]; done) | (simp [go_sem]; omega)) _) | (refine Below.setCell ?_ (by first | omega | (simp [go_sem]; done) | (simp [go_sem]; omega)) _)))))) ?_; intro v4 x4 hown4 hgrow4 hnil4; have hb4 : Below wq.heap.size wq x4 := Below.grown (hb3.trans (Below.mono (show Below x3.heap.size x3 _ by (repeat (first | exact Below.refl _ _ | refine Below.drew ?_ | (refine below_gw' ?_ (by first | omega | (simp [go_sem]; done) | (simp [go_sem]; omega)) _) | (refine Below.alloc ?_ (by first | omega | (simp [go_sem]; done) | (simp [go_sem]; omega)) _) | (refine Below.setCell ?_ (by first | omega | (simp [go_sem]; done) | (simp [go_sem]; omega)) _)))) hb3.size)) hgrow4 (Nat.le_trans hb3.size (Below.size (show Below x3.heap.size x3 _ by (repeat (first | exact Below.refl _ _ | refine Below.drew ?_ | (refine below_gw' ?_ (by first | omega | (simp [go_sem]; done) | (simp [go_sem]; omega)) _) | (refine Below.alloc ?_ (by first | omega | (simp [go_sem]; done) | (simp [go_sem]; omega)) _) | (refine Below.setCell ?_ (by first | omega | (simp [go_sem]; done) | (simp [go_sem]; omega)) _)))))) (own_low hown3)))
              all_goals
                have HREL : Hid (RFLoop L w1.heap.size (k + 1) w1 v4 x4) := Lib.hid (rf_step hszq (by rw [← HCE.out]; exact hown4) ha HSF.out HPF.out HN.out hfk HHI.out HLO.out (HBQ.out.trans (hb4.mono hszq)))
                clear hown4 hgrow4 hnil4 hb4 hown3 hgrow3 hnil3 hb3 hown2 hgrow2 hnil2 hb2 n0 n1 n2 q0 q1 q2
                go_wp2_with fail
                go_roundw
                case rel => exact ⟨k + 1, by omega, by go_num, HREL.out⟩
                case measure => simp [intOf]; omega
            · obtain ⟨q, hq⟩ : ∃ q, a = q + 1 := ⟨a - 1, by omega⟩
              obtain ⟨x, hx⟩ : ∃ x, F[q]? = some x := ⟨_, List.getElem?_eq_getElem (by omega)⟩
              obtain ⟨go, oo, rfl, hgo, hcs⟩ := HCS.out (by rintro rfl; simp at hx)
              have d0 : wr.cell? ⟨go, oo + q * 3, none⟩ = some (.int .i64 (lineOf L x)) := (HBL.out.cell (p := ⟨go, oo + q * 3, none⟩) hgo).trans (hcs q x hx 0 (by decide))
              have d1 : wr.cell? ⟨go, oo + q * 3 + 1, none⟩ = some (.string ⟨x.toArray⟩) := (HBL.out.cell (p := ⟨go, oo + q * 3 + 1, none⟩) hgo).trans (hcs q x hx 1 (by decide))
              have hgo2 := cell_lt d0
              have hltx : ltF L name.data.toList x = decide (line < lineOf L x ∨ line = lineOf L x ∧ name.data.toList < x) := by
                unfold ltF
                rw [HLN.out]
              have HHI2 : ltF L name.data.toList x = true → Hid (∀ y ∈ F.drop q, ltF L name.data.toList y = true) := fun hxt => Lib.hid fun y hy => by
                rw [List.drop_eq_getElem_cons (by omega)] at hy
                rcases List.mem_cons.1 hy with rfl | hy
                · rw [List.getElem?_eq_getElem (by omega)] at hx; cases hx; exact hxt
                · exact HHI.out y (by rw [hq]; exact hy)
              have HLO2 : ltF L name.data.toList x = false → Hid (a = 0 ∨ ∃ x, F[a - 1]? = some x ∧ ltF L name.data.toList x = false) := fun h => Lib.hid (.inr ⟨x, by rw [hq]; exact hx, h⟩)
              obtain ⟨lx, hlx⟩ : ∃ n, lineOf L x = n := ⟨_, rfl⟩
              obtain ⟨xb, hxb⟩ : ∃ n : ByteArray, (⟨x.toArray⟩ : ByteArray) = n := ⟨_, rfl⟩
              have hxl : x = xb.data.toList := by rw [← hxb]
              rw [hlx] at d0 hltx
              rw [hxb] at d1
              have hq0 : (0 : Int) ≤ (a : Int) - 1 := by omega
              have hq1 : (a : Int) - 1 < (F.length : Int) := by omega
              have hqt : ((a : Int) - 1).toNat = q := by omega
              have hqp : decide ((0 : Int) < (a : Int)) = true := decide_eq_true (by omega)
              have hqp2 : decide (0 < a) = true := decide_eq_true (by omega)
              have HQ := Lib.hid hq
              have HLTX := Lib.hid hltx
              have HXL := Lib.hid hxl
              clear hx hltx hxl hcs hlx hxb hq hz
              rcases Int.lt_trichotomy line lx with h | h | h
              · have g1 : decide (line < lx) = true := decide_eq_true h
                have HHI2 := HHI2 (by rw [HLTX.out]; exact decide_eq_true (.inl h))
                clear HLO2
                go_wp2_with fail
                go_quiet (fail)
                go_wp2_with fail
                go_roundw
                case rel => exact ⟨q, by have := HQ.out; omega, by rw [show ((a : Int) - 1) = (q : Int) by have := HQ.out; omega], HBL.out.trans ((show Below wr.heap.size wr (wr.drewN nq) from ⟨rfl, rfl, rfl, Nat.le_refl _, fun _ _ => rfl⟩).mono hszl), HHI2.out⟩
                case measure => simp [intOf]; have := HQ.out; omega
              · subst h
                have g1 : decide (line < line) = false := decide_eq_false (by omega)
                have g2 : (line == line) = true := by simp
                by_cases hs : name.data.toList < x
                · have g3 : (!(Op.bytesLess xb.toList name.toList || xb.toList == name.toList)) = true := by
                    rw [bytesLess_eq, Lib.toList_data, Lib.toList_data, ← HXL.out]
                    simp only [Bool.not_eq_true', Bool.or_eq_false_iff, decide_eq_false_iff_not, beq_eq_false_iff_ne]
                    exact ⟨fun h => List.lt_irrefl _ (List.lt_trans h hs), fun h => by rw [h] at hs; exact List.lt_irrefl _ hs⟩
                  have HHI2 := HHI2 (by rw [HLTX.out]; exact decide_eq_true (.inr ⟨rfl, hs⟩))
                  clear HLO2 hs
                  go_wp2_with fail
                  go_quiet (fail)
                  go_wp2_with fail
                  go_roundw
                  case rel => exact ⟨q, by have := HQ.out; omega, by rw [show ((a : Int) - 1) = (q : Int) by have := HQ.out; omega], HBL.out.trans ((show Below wr.heap.size wr (wr.drewN nq) from ⟨rfl, rfl, rfl, Nat.le_refl _, fun _ _ => rfl⟩).mono hszl), HHI2.out⟩
                  case measure => simp [intOf]; have := HQ.out; omega
                · have g3 : (!(Op.bytesLess xb.toList name.toList || xb.toList == name.toList)) = false := by
                    rw [bytesLess_eq, Lib.toList_data, Lib.toList_data, ← HXL.out]
                    rcases byte_tri x name.data.toList with h | h | h
                    · simp [h]
                    · simp [h]
                    · exact absurd h hs
                  have HLO := HLO2 (by rw [HLTX.out]; exact decide_eq_false (fun h => by rcases h with h | ⟨_, h⟩; omega; exact hs h))
                  clear HHI2 HLO2 hs
                  go_wp2_with fail
                  go_quiet (fail)
                  go_wp2_with fail
                  obtain ⟨wq, hwq⟩ : ∃ wq, wr.drewN nq = wq := ⟨_, rfl⟩
                  have hbq : Below wr.heap.size wr wq := by rw [← hwq]; exact ⟨rfl, rfl, rfl, Nat.le_refl _, fun _ _ => rfl⟩
                  rw [hwq]
                  have q0 := (hbq.cell (p := ⟨fb, 0, none⟩) hltr).trans c0
                  have q1 := (hbq.cell (p := ⟨fb, 1, none⟩) hltr).trans c1
                  have q2 := (hbq.cell (p := ⟨fb, 2, none⟩) hltr).trans c2
                  have hltq := cell_lt q0
                  have HBQ : Hid (Below w1.heap.size w1 wq) := Lib.hid ((HBC.out.trans (HBL.out.mono hszc)).trans (hbq.mono (Nat.le_trans hszc hszl)))
                  have HOQ := Lib.hid (owns_below' (owns_below' HOWNC.out HBL.out) hbq)
                  have hszq := HBQ.out.size
                  clear hwq hbq c0 c1 c2
                  generalize hao : (some ⟨go, oo, none⟩ : Option Addr) = ao at HOQ ⊢
                  go_region_law (first
                    | (refine step_append_src (by rfl) _ _ 66 (by rfl) wq.heap.size 70 i0 (.agg #[.int .i64 0, .string ⟨#[]⟩, .int .i64 0]) 3 32 Tryz.underlying66 hi hz0 hz1 hz2 rfl (by decide) _ 0 [] (by rfl) (own_empty (by first | exact alloc_at' _ _ | exact alloc_at2 _ _ _ | exact alloc_at3 _ _ _) (by omega)) _ a ((F.take a).flatMap (rflc L)) (by rfl) (src_lo (owns_below' HOQ.out (by (repeat (first | exact Below.refl _ _ | refine Below.drew ?_ | (refine below_gw' ?_ (by first | omega | (simp [go_sem]; done) | (simp [go_sem]; omega)) _) | (refine Below.alloc ?_ (by first | omega | (simp [go_sem]; done) | (simp [go_sem]; omega)) _) | (refine Below.setCell ?_ (by first | omega | (simp [go_sem]; done) | (simp [go_sem]; omega)) _))))) ha) (flat_take L F ha) (rflc_one L _) (by unfold maxLen; omega) (by omega) (Below.size (show Below wq.heap.size wq _ by (repeat (first | exact Below.refl _ _ | refine Below.drew ?_ | (refine below_gw' ?_ (by first | omega | (simp [go_sem]; done) | (simp [go_sem]; omega)) _) | (refine Below.alloc ?_ (by first | omega | (simp [go_sem]; done) | (simp [go_sem]; omega)) _) | (refine Below.setCell ?_ (by first | omega | (simp [go_sem]; done) | (simp [go_sem]; omega)) _))))) ?_; intro v2 x2 hown2 hgrow2 hnil2; simp only [Nat.zero_add, List.nil_append] at hown2; have hb2 : Below wq.heap.size wq x2 := Below.grown (show Below wq.heap.size wq _ by (repeat (first | exact Below.refl _ _ | refine Below.drew ?_ | (refine below_gw' ?_ (by first | omega | (simp [go_sem]; done) | (simp [go_sem]; omega)) _) | (refine Below.alloc ?_ (by first | omega | (simp [go_sem]; done) | (simp [go_sem]; omega)) _) | (refine Below.setCell ?_ (by first | omega | (simp [go_sem]; done) | (simp [go_sem]; omega)) _)))) hgrow2 (Below.size (show Below wq.heap.size wq _ by (repeat (first | exact Below.refl _ _ | refine Below.drew ?_ | (refine below_gw' ?_ (by first | omega | (simp [go_sem]; done) | (simp [go_sem]; omega)) _) | (refine Below.alloc ?_ (by first | omega | (simp [go_sem]; done) | (simp [go_sem]; omega)) _) | (refine Below.setCell ?_ (by first | omega | (simp [go_sem]; done) | (simp [go_sem]; omega)) _))))) (fun q hq => by have h := Option.some.inj hq; dsimp only at h; omega); have n0 := (hb2.cell (p := ⟨fb, 0, none⟩) hltq).trans q0; have n1 := (hb2.cell (p := ⟨fb, 1, none⟩) hltq).trans q1; have n2 := (hb2.cell (p := ⟨fb, 2, none⟩) hltq).trans q2)
                    | (refine step_append_src (by rfl) _ _ 66 (by rfl) wq.heap.size 70 i0 (.agg #[.int .i64 0, .string ⟨#[]⟩, .int .i64 0]) 3 32 Tryz.underlying66 hi hz0 hz1 hz2 rfl (by decide) v2 a ((F.take a).flatMap (rflc L)) (by rfl) (owns_below' hown2 (by (repeat (first | exact Below.refl _ _ | refine Below.drew ?_ | (refine below_gw' ?_ (by first | omega | (simp [go_sem]; done) | (simp [go_sem]; omega)) _) | (refine Below.alloc ?_ (by first | omega | (simp [go_sem]; done) | (simp [go_sem]; omega)) _) | (refine Below.setCell ?_ (by first | omega | (simp [go_sem]; done) | (simp [go_sem]; omega)) _))))) _ 1 [.int .i64 line, .string name, .int .i64 cd] (by rfl) (.inr ⟨_, 1, rfl, one_src3 (by first | exact alloc_at' x2 _ | exact (hgrow2.block _ (by show _ < (Array.push (Array.push _ _) _).size; simp) (by simp [Value.ownBlock])).trans (alloc_at3 _ _ _) | exact (hgrow2.block _ (by show _ < (Array.push (Array.push _ _) _).size; simp; omega) (by simp [Value.ownBlock])).trans (alloc_at2 _ _ _))⟩) (by rfl) (one3 (by rfl) (by rfl) (by rfl)) (by unfold maxLen; omega) (by omega) (Nat.le_trans hb2.size (Below.size (show Below x2.heap.size x2 _ by (repeat (first | exact Below.refl _ _ | refine Below.drew ?_ | (refine below_gw' ?_ (by first | omega | (simp [go_sem]; done) | (simp [go_sem]; omega)) _) | (refine Below.alloc ?_ (by first | omega | (simp [go_sem]; done) | (simp [go_sem]; omega)) _) | (refine Below.setCell ?_ (by first | omega | (simp [go_sem]; done) | (simp [go_sem]; omega)) _)))))) ?_; intro v3 x3 hown3 hgrow3 hnil3; have hb3 : Below wq.heap.size wq x3 := Below.grown (hb2.trans (Below.mono (show Below x2.heap.size x2 _ by (repeat (first | exact Below.refl _ _ | refine Below.drew ?_ | (refine below_gw' ?_ (by first | omega | (simp [go_sem]; done) | (simp [go_sem]; omega)) _) | (refine Below.alloc ?_ (by first | omega | (simp [go_sem]; done) | (simp [go_sem]; omega)) _) | (refine Below.setCell ?_ (by first | omega | (simp [go_sem]; done) | (simp [go_sem]; omega)) _)))) hb2.size)) hgrow3 (Nat.le_trans hb2.size (Below.size (show Below x2.heap.size x2 _ by (repeat (first | exact Below.refl _ _ | refine Below.drew ?_ | (refine below_gw' ?_ (by first | omega | (simp [go_sem]; done) | (simp [go_sem]; omega)) _) | (refine Below.alloc ?_ (by first | omega | (simp [go_sem]; done) | (simp [go_sem]; omega)) _) | (refine Below.setCell ?_ (by first | omega | (simp [go_sem]; done) | (simp [go_sem]; omega)) _)))))) (own_low hown2))
                    | (refine step_append_src (by rfl) _ _ 66 (by rfl) wq.heap.size 70 i0 (.agg #[.int .i64 0, .string ⟨#[]⟩, .int .i64 0]) 3 32 Tryz.underlying66 hi hz0 hz1 hz2 rfl (by decide) v3 (a + 1) ((F.take a).flatMap (rflc L) ++ [.int .i64 line, .string name, .int .i64 cd]) (by rfl) (owns_below' hown3 (by (repeat (first | exact Below.refl _ _ | refine Below.drew ?_ | (refine below_gw' ?_ (by first | omega | (simp [go_sem]; done) | (simp [go_sem]; omega)) _) | (refine Below.alloc ?_ (by first | omega | (simp [go_sem]; done) | (simp [go_sem]; omega)) _) | (refine Below.setCell ?_ (by first | omega | (simp [go_sem]; done) | (simp [go_sem]; omega)) _))))) _ (F.length - a) ((F.drop a).flatMap (rflc L)) (by rfl) (src_hi (owns_below' HOQ.out (hb3.trans (Below.mono (show Below x3.heap.size x3 _ by (repeat (first | exact Below.refl _ _ | refine Below.drew ?_ | (refine below_gw' ?_ (by first | omega | (simp [go_sem]; done) | (simp [go_sem]; omega)) _) | (refine Below.alloc ?_ (by first | omega | (simp [go_sem]; done) | (simp [go_sem]; omega)) _) | (refine Below.setCell ?_ (by first | omega | (simp [go_sem]; done) | (simp [go_sem]; omega)) _)))) hb3.size))) ha) (flat_drop L F ha) (rflc_one L _) (by unfold maxLen; omega) (by omega) (Nat.le_trans hb3.size (Below.size (show Below x3.heap.size x3 _ by (repeat (first | exact Below.refl _ _ | refine Below.drew ?_ | (refine below_gw' ?_ (by first | omega | (simp [go_sem]; done) | (simp [go_sem]; omega)) _) | (refine Below.alloc ?_ (by first | omega | (simp [go_sem]; done) | (simp [go_sem]; omega)) _) | (refine Below.setCell ?_ (by first | omega | (simp [go_sem]; done) | (simp [go_sem]; omega)) _)))))) ?_; intro v4 x4 hown4 hgrow4 hnil4; have hb4 : Below wq.heap.size wq x4 := Below.grown (hb3.trans (Below.mono (show Below x3.heap.size x3 _ by (repeat (first | exact Below.refl _ _ | refine Below.drew ?_ | (refine below_gw' ?_ (by first | omega | (simp [go_sem]; done) | (simp [go_sem]; omega)) _) | (refine Below.alloc ?_ (by first | omega | (simp [go_sem]; done) | (simp [go_sem]; omega)) _) | (refine Below.setCell ?_ (by first | omega | (simp [go_sem]; done) | (simp [go_sem]; omega)) _)))) hb3.size)) hgrow4 (Nat.le_trans hb3.size (Below.size (show Below x3.heap.size x3 _ by (repeat (first | exact Below.refl _ _ | refine Below.drew ?_ | (refine below_gw' ?_ (by first | omega | (simp [go_sem]; done) | (simp [go_sem]; omega)) _) | (refine Below.alloc ?_ (by first | omega | (simp [go_sem]; done) | (simp [go_sem]; omega)) _) | (refine Below.setCell ?_ (by first | omega | (simp [go_sem]; done) | (simp [go_sem]; omega)) _)))))) (own_low hown3)))
                  all_goals
                    have HREL : Hid (RFLoop L w1.heap.size (k + 1) w1 v4 x4) := Lib.hid (rf_step hszq (by rw [← HCE.out]; exact hown4) ha HSF.out HPF.out HN.out hfk HHI.out HLO.out (HBQ.out.trans (hb4.mono hszq)))
                    clear hown4 hgrow4 hnil4 hb4 hown3 hgrow3 hnil3 hb3 hown2 hgrow2 hnil2 hb2 n0 n1 n2 q0 q1 q2
                    go_wp2_with fail
                    go_roundw
                    case rel => exact ⟨k + 1, by omega, by go_num, HREL.out⟩
                    case measure => simp [intOf]; omega
              · have g1 : decide (line < lx) = false := decide_eq_false (by omega)
                have g2 : (lx == line) = false := by simp; omega
                have HLO := HLO2 (by rw [HLTX.out]; exact decide_eq_false (fun h => by rcases h with h | ⟨h, _⟩ <;> omega))
                clear HHI2 HLO2 h
                go_wp2_with fail
                go_quiet (fail)
                go_wp2_with fail
                obtain ⟨wq, hwq⟩ : ∃ wq, wr.drewN nq = wq := ⟨_, rfl⟩
                have hbq : Below wr.heap.size wr wq := by rw [← hwq]; exact ⟨rfl, rfl, rfl, Nat.le_refl _, fun _ _ => rfl⟩
                rw [hwq]
                have q0 := (hbq.cell (p := ⟨fb, 0, none⟩) hltr).trans c0
                have q1 := (hbq.cell (p := ⟨fb, 1, none⟩) hltr).trans c1
                have q2 := (hbq.cell (p := ⟨fb, 2, none⟩) hltr).trans c2
                have hltq := cell_lt q0
                have HBQ : Hid (Below w1.heap.size w1 wq) := Lib.hid ((HBC.out.trans (HBL.out.mono hszc)).trans (hbq.mono (Nat.le_trans hszc hszl)))
                have HOQ := Lib.hid (owns_below' (owns_below' HOWNC.out HBL.out) hbq)
                have hszq := HBQ.out.size
                clear hwq hbq c0 c1 c2
                generalize hao : (some ⟨go, oo, none⟩ : Option Addr) = ao at HOQ ⊢
                go_region_law (first
                  | (refine step_append_src (by rfl) _ _ 66 (by rfl) wq.heap.size 70 i0 (.agg #[.int .i64 0, .string ⟨#[]⟩, .int .i64 0]) 3 32 Tryz.underlying66 hi hz0 hz1 hz2 rfl (by decide) _ 0 [] (by rfl) (own_empty (by first | exact alloc_at' _ _ | exact alloc_at2 _ _ _ | exact alloc_at3 _ _ _) (by omega)) _ a ((F.take a).flatMap (rflc L)) (by rfl) (src_lo (owns_below' HOQ.out (by (repeat (first | exact Below.refl _ _ | refine Below.drew ?_ | (refine below_gw' ?_ (by first | omega | (simp [go_sem]; done) | (simp [go_sem]; omega)) _) | (refine Below.alloc ?_ (by first | omega | (simp [go_sem]; done) | (simp [go_sem]; omega)) _) | (refine Below.setCell ?_ (by first | omega | (simp [go_sem]; done) | (simp [go_sem]; omega)) _))))) ha) (flat_take L F ha) (rflc_one L _) (by unfold maxLen; omega) (by omega) (Below.size (show Below wq.heap.size wq _ by (repeat (first | exact Below.refl _ _ | refine Below.drew ?_ | (refine below_gw' ?_ (by first | omega | (simp [go_sem]; done) | (simp [go_sem]; omega)) _) | (refine Below.alloc ?_ (by first | omega | (simp [go_sem]; done) | (simp [go_sem]; omega)) _) | (refine Below.setCell ?_ (by first | omega | (simp [go_sem]; done) | (simp [go_sem]; omega)) _))))) ?_; intro v2 x2 hown2 hgrow2 hnil2; simp only [Nat.zero_add, List.nil_append] at hown2; have hb2 : Below wq.heap.size wq x2 := Below.grown (show Below wq.heap.size wq _ by (repeat (first | exact Below.refl _ _ | refine Below.drew ?_ | (refine below_gw' ?_ (by first | omega | (simp [go_sem]; done) | (simp [go_sem]; omega)) _) | (refine Below.alloc ?_ (by first | omega | (simp [go_sem]; done) | (simp [go_sem]; omega)) _) | (refine Below.setCell ?_ (by first | omega | (simp [go_sem]; done) | (simp [go_sem]; omega)) _)))) hgrow2 (Below.size (show Below wq.heap.size wq _ by (repeat (first | exact Below.refl _ _ | refine Below.drew ?_ | (refine below_gw' ?_ (by first | omega | (simp [go_sem]; done) | (simp [go_sem]; omega)) _) | (refine Below.alloc ?_ (by first | omega | (simp [go_sem]; done) | (simp [go_sem]; omega)) _) | (refine Below.setCell ?_ (by first | omega | (simp [go_sem]; done) | (simp [go_sem]; omega)) _))))) (fun q hq => by have h := Option.some.inj hq; dsimp only at h; omega); have n0 := (hb2.cell (p := ⟨fb, 0, none⟩) hltq).trans q0; have n1 := (hb2.cell (p := ⟨fb, 1, none⟩) hltq).trans q1; have n2 := (hb2.cell (p := ⟨fb, 2, none⟩) hltq).trans q2)
                  | (refine step_append_src (by rfl) _ _ 66 (by rfl) wq.heap.size 70 i0 (.agg #[.int .i64 0, .string ⟨#[]⟩, .int .i64 0]) 3 32 Tryz.underlying66 hi hz0 hz1 hz2 rfl (by decide) v2 a ((F.take a).flatMap (rflc L)) (by rfl) (owns_below' hown2 (by (repeat (first | exact Below.refl _ _ | refine Below.drew ?_ | (refine below_gw' ?_ (by first | omega | (simp [go_sem]; done) | (simp [go_sem]; omega)) _) | (refine Below.alloc ?_ (by first | omega | (simp [go_sem]; done) | (simp [go_sem]; omega)) _) | (refine Below.setCell ?_ (by first | omega | (simp [go_sem]; done) | (simp [go_sem]; omega)) _))))) _ 1 [.int .i64 line, .string name, .int .i64 cd] (by rfl) (.inr ⟨_, 1, rfl, one_src3 (by first | exact alloc_at' x2 _ | exact (hgrow2.block _ (by show _ < (Array.push (Array.push _ _) _).size; simp) (by simp [Value.ownBlock])).trans (alloc_at3 _ _ _) | exact (hgrow2.block _ (by show _ < (Array.push (Array.push _ _) _).size; simp; omega) (by simp [Value.ownBlock])).trans (alloc_at2 _ _ _))⟩) (by rfl) (one3 (by rfl) (by rfl) (by rfl)) (by unfold maxLen; omega) (by omega) (Nat.le_trans hb2.size (Below.size (show Below x2.heap.size x2 _ by (repeat (first | exact Below.refl _ _ | refine Below.drew ?_ | (refine below_gw' ?_ (by first | omega | (simp [go_sem]; done) | (simp [go_sem]; omega)) _) | (refine Below.alloc ?_ (by first | omega | (simp [go_sem]; done) | (simp [go_sem]; omega)) _) | (refine Below.setCell ?_ (by first | omega | (simp [go_sem]; done) | (simp [go_sem]; omega)) _)))))) ?_; intro v3 x3 hown3 hgrow3 hnil3; have hb3 : Below wq.heap.size wq x3 := Below.grown (hb2.trans (Below.mono (show Below x2.heap.size x2 _ by (repeat (first | exact Below.refl _ _ | refine Below.drew ?_ | (refine below_gw' ?_ (by first | omega | (simp [go_sem]; done) | (simp [go_sem]; omega)) _) | (refine Below.alloc ?_ (by first | omega | (simp [go_sem]; done) | (simp [go_sem]; omega)) _) | (refine Below.setCell ?_ (by first | omega | (simp [go_sem]; done) | (simp [go_sem]; omega)) _)))) hb2.size)) hgrow3 (Nat.le_trans hb2.size (Below.size (show Below x2.heap.size x2 _ by (repeat (first | exact Below.refl _ _ | refine Below.drew ?_ | (refine below_gw' ?_ (by first | omega | (simp [go_sem]; done) | (simp [go_sem]; omega)) _) | (refine Below.alloc ?_ (by first | omega | (simp [go_sem]; done) | (simp [go_sem]; omega)) _) | (refine Below.setCell ?_ (by first | omega | (simp [go_sem]; done) | (simp [go_sem]; omega)) _)))))) (own_low hown2))
                  | (refine step_append_src (by rfl) _ _ 66 (by rfl) wq.heap.size 70 i0 (.agg #[.int .i64 0, .string ⟨#[]⟩, .int .i64 0]) 3 32 Tryz.underlying66 hi hz0 hz1 hz2 rfl (by decide) v3 (a + 1) ((F.take a).flatMap (rflc L) ++ [.int .i64 line, .string name, .int .i64 cd]) (by rfl) (owns_below' hown3 (by (repeat (first | exact Below.refl _ _ | refine Below.drew ?_ | (refine below_gw' ?_ (by first | omega | (simp [go_sem]; done) | (simp [go_sem]; omega)) _) | (refine Below.alloc ?_ (by first | omega | (simp [go_sem]; done) | (simp [go_sem]; omega)) _) | (refine Below.setCell ?_ (by first | omega | (simp [go_sem]; done) | (simp [go_sem]; omega)) _))))) _ (F.length - a) ((F.drop a).flatMap (rflc L)) (by rfl) (src_hi (owns_below' HOQ.out (hb3.trans (Below.mono (show Below x3.heap.size x3 _ by (repeat (first | exact Below.refl _ _ | refine Below.drew ?_ | (refine below_gw' ?_ (by first | omega | (simp [go_sem]; done) | (simp [go_sem]; omega)) _) | (refine Below.alloc ?_ (by first | omega | (simp [go_sem]; done) | (simp [go_sem]; omega)) _) | (refine Below.setCell ?_ (by first | omega | (simp [go_sem]; done) | (simp [go_sem]; omega)) _)))) hb3.size))) ha) (flat_drop L F ha) (rflc_one L _) (by unfold maxLen; omega) (by omega) (Nat.le_trans hb3.size (Below.size (show Below x3.heap.size x3 _ by (repeat (first | exact Below.refl _ _ | refine Below.drew ?_ | (refine below_gw' ?_ (by first | omega | (simp [go_sem]; done) | (simp [go_sem]; omega)) _) | (refine Below.alloc ?_ (by first | omega | (simp [go_sem]; done) | (simp [go_sem]; omega)) _) | (refine Below.setCell ?_ (by first | omega | (simp [go_sem]; done) | (simp [go_sem]; omega)) _)))))) ?_; intro v4 x4 hown4 hgrow4 hnil4; have hb4 : Below wq.heap.size wq x4 := Below.grown (hb3.trans (Below.mono (show Below x3.heap.size x3 _ by (repeat (first | exact Below.refl _ _ | refine Below.drew ?_ | (refine below_gw' ?_ (by first | omega | (simp [go_sem]; done) | (simp [go_sem]; omega)) _) | (refine Below.alloc ?_ (by first | omega | (simp [go_sem]; done) | (simp [go_sem]; omega)) _) | (refine Below.setCell ?_ (by first | omega | (simp [go_sem]; done) | (simp [go_sem]; omega)) _)))) hb3.size)) hgrow4 (Nat.le_trans hb3.size (Below.size (show Below x3.heap.size x3 _ by (repeat (first | exact Below.refl _ _ | refine Below.drew ?_ | (refine below_gw' ?_ (by first | omega | (simp [go_sem]; done) | (simp [go_sem]; omega)) _) | (refine Below.alloc ?_ (by first | omega | (simp [go_sem]; done) | (simp [go_sem]; omega)) _) | (refine Below.setCell ?_ (by first | omega | (simp [go_sem]; done) | (simp [go_sem]; omega)) _)))))) (own_low hown3)))
                all_goals
                  have HREL : Hid (RFLoop L w1.heap.size (k + 1) w1 v4 x4) := Lib.hid (rf_step hszq (by rw [← HCE.out]; exact hown4) ha HSF.out HPF.out HN.out hfk HHI.out HLO.out (HBQ.out.trans (hb4.mono hszq)))
                  clear hown4 hgrow4 hnil4 hb4 hown3 hgrow3 hnil3 hb3 hown2 hgrow2 hnil2 hb2 n0 n1 n2 q0 q1 q2
                  go_wp2_with fail
                  go_roundw
                  case rel => exact ⟨k + 1, by omega, by go_num, HREL.out⟩
                  case measure => simp [intOf]; omega
    · obtain rfl : k = R.length := by omega
      clear hown hsf hpf hbel
      go_wp2_with fail
      go_ret
      refine ⟨_, F, rfl, Row.of_owns HOWN.out, HSF.out, ?_, HB1.out.trans (HBEL.out.mono hsz1)⟩
      have hN : (namesN L).length = R.length := by unfold namesN; rw [List.length_map]; exact hLR
      have := HPF.out
      rw [← hN, List.take_length] at this
      exact this
end Go.Proofs.YtnjpfhihbjihbaaGreatDoor

/- slices.EqualFunc of the faults of both sides. -/
namespace Go.Proofs.YtnjpfhihbjihbaaGreatDoor
open Go.RowKit Go.Sort

set_option maxHeartbeats 1000000 in
theorem feq1_any (a0 a1 : Int) (s : ByteArray) (w : World) :
    Calls Tryz.prog 31 #[.agg #[.int .i64 a0, .int .i64 a1], .agg #[.int .i64 a0, .string s, .int .i64 a1]] w fun e w' => e = .returned (.bool true) ∧ Below w.heap.size w w' := by
  go_enter Tryz.func31, Tryz.ntmps31
  go_wp2_with fail
  go_ret
  exact ⟨by simp, by (repeat (first | exact Below.refl _ _ | refine Below.drew ?_ | (refine below_gw' ?_ (by first | omega | (simp [go_sem]; done) | (simp [go_sem]; omega)) _) | (refine Below.alloc ?_ (by first | omega | (simp [go_sem]; done) | (simp [go_sem]; omega)) _) | (refine Below.setCell ?_ (by first | omega | (simp [go_sem]; done) | (simp [go_sem]; omega)) _)))⟩
set_option maxHeartbeats 2000000 in
theorem eqFaults_any (L : List Sy) (F : List (List UInt8)) (v1 v2 : Value) (w : World) (h1 : Row w v1 F.length (F.flatMap (flc L))) (h2 : Row w v2 F.length (F.flatMap (rflc L))) (hl : F.length ≤ 1000000) :
    Calls Tryz.prog 29 #[v1, v2, .func (.func 31) #[] #[]] w fun e w' => e = .returned (.bool true) ∧ Below w.heap.size w w' := by
  obtain ⟨a1, c1, rfl, hc1, H1⟩ := h1.structs (flc L) 2 (fun _ => rfl) (by decide)
  obtain ⟨a2, c2, rfl, hc2, H2⟩ := h2.structs (rflc L) 3 (fun _ => rfl) (by decide)
  have hb0 : ((F.length : Int) != (F.length : Int)) = false := by simp
  have hl1 : (F.length : Int) ≤ 1000000 := by omega
  have HH1 := Lib.hid H1
  have HH2 := Lib.hid H2
  clear h1 h2 H1 H2
  go_enter Tryz.func29, Tryz.ntmps29
  go_wp2_with fail
  go_loopw [17] (fun i wr => ∃ k : Nat, k ≤ F.length ∧ i = .int .i64 k ∧ Below w.heap.size w wr) (fun i _ => F.length - (intOf i).toNat)
  case atStart => exact ⟨0, Nat.zero_le _, rfl, Below.refl _ _⟩
  case round =>
    obtain ⟨k, hk, rfl, hbel⟩ := hrel
    have HBEL := Lib.hid hbel
    have hszr := hbel.size
    by_cases hlt : k < F.length
    · obtain ⟨t, ht⟩ : ∃ t, F[k]? = some t := ⟨_, List.getElem?_eq_getElem hlt⟩
      obtain ⟨g1, o1, rfl, hg1, hcs1⟩ := HH1.out (by rintro rfl; simp at ht)
      obtain ⟨g2, o2, rfl, hg2, hcs2⟩ := HH2.out (by rintro rfl; simp at ht)
      obtain ⟨ln, hln⟩ : ∃ x, lineOf L t = x := ⟨_, rfl⟩
      obtain ⟨cd, hcd⟩ : ∃ x, fcode L t = x := ⟨_, rfl⟩
      have d1 := fun j hj => (hbel.cell (p := ⟨g1, o1 + k * 2 + j, none⟩) hg1).trans (hcs1 k t ht j hj)
      have d2 := fun j hj => (hbel.cell (p := ⟨g2, o2 + k * 3 + j, none⟩) hg2).trans (hcs2 k t ht j hj)
      simp only [flc, rflc, hln, hcd] at d1 d2
      have f0 : wr.cell? ⟨g1, o1 + k * 2, none⟩ = some (.int .i64 ln) := d1 0 (by decide)
      have f1 : wr.cell? ⟨g1, o1 + k * 2 + 1, none⟩ = some (.int .i64 cd) := d1 1 (by decide)
      have e0 : wr.cell? ⟨g2, o2 + k * 3, none⟩ = some (.int .i64 ln) := d2 0 (by decide)
      have e1 : wr.cell? ⟨g2, o2 + k * 3 + 1, none⟩ = some (.string ⟨t.toArray⟩) := d2 1 (by decide)
      have e2 : wr.cell? ⟨g2, o2 + k * 3 + 2, none⟩ = some (.int .i64 cd) := d2 2 (by decide)
      have l1 := cell_lt f0
      have l2 := cell_lt e0
      obtain ⟨tb, htb⟩ : ∃ tb : ByteArray, (⟨t.toArray⟩ : ByteArray) = tb := ⟨_, rfl⟩
      rw [htb] at e1
      have hi0 : (0 : Int) ≤ (k : Int) := by omega
      have hi1 : (k : Int) < (F.length : Int) := by omega
      clear d1 d2 hcs1 hcs2 hbel hln hcd htb ht
      go_wp2_with fail
      (with_reducible refine (feq1_any ln cd tb _).mono ?_)
      rintro e w2 ⟨rfl, hb2⟩
      have HB2 : Hid (Below w.heap.size w w2) := Lib.hid (HBEL.out.trans (Below.mono (Below.trans (b := (wr.alloc (.cells #[.int .i64 ln, .int .i64 cd] 68)).alloc (.cells #[.int .i64 ln, .string tb, .int .i64 cd] 70)) (show Below wr.heap.size wr _ by (repeat (first | exact Below.refl _ _ | refine Below.drew ?_ | (refine below_gw' ?_ (by first | omega | (simp [go_sem]; done) | (simp [go_sem]; omega)) _) | (refine Below.alloc ?_ (by first | omega | (simp [go_sem]; done) | (simp [go_sem]; omega)) _) | (refine Below.setCell ?_ (by first | omega | (simp [go_sem]; done) | (simp [go_sem]; omega)) _)))) (hb2.mono (by simp [go_sem]; omega))) hszr))
      clear hb2
      go_wp2_with fail
      go_roundw
      case rel => exact ⟨k + 1, by omega, by go_num, HB2.out⟩
      case measure => simp [intOf]; omega
    · obtain rfl : k = F.length := by omega
      clear hbel
      go_wp2_with fail
      go_ret
      exact ⟨rfl, HBEL.out⟩
end Go.Proofs.YtnjpfhihbjihbaaGreatDoor

/- The walk of the law SymbolsFaults. -/
namespace Go.Proofs.YtnjpfhihbjihbaaGreatDoor
open Go.RowKit Go.Sort

open Go.ChangeMaps
theorem lineOf_norm (L : List Sy) (t : List UInt8) : lineOf (L.map Sy.norm) t = lineOf L t := by
  unfold lineOf
  rw [norm_find]
  cases sfindS L ⟨t.toArray⟩ with
  | none => rfl
  | some s => simp only [Option.map_some, norm_line]
theorem fcode_norm (L : List Sy) (t : List UInt8) : fcode (L.map Sy.norm) t = fcode L t := by
  unfold fcode
  simp only [norm_find, norm_Kn]
  by_cases h : Leads L ⟨t.toArray⟩ ⟨t.toArray⟩
  · rw [if_pos h, if_pos ((norm_Leads L _ _).2 h)]
  · rw [if_neg h, if_neg (fun k => h ((norm_Leads L _ _).1 k))]
    cases sfindS L ⟨t.toArray⟩ with
    | none => rfl
    | some s => simp only [Option.map_some, norm_ev]
theorem namesN_norm (L : List Sy) : namesN (L.map Sy.norm) = namesN L := by
  unfold namesN
  rw [List.map_map]
  exact List.map_congr_left fun s _ => by simp only [Function.comp_apply, norm_name]
theorem missN_norm (L : List Sy) (l : List (List UInt8)) : missN (L.map Sy.norm) l = missN L l := by unfold missN; rw [norm_Kn]
theorem sortedF_norm {L : List Sy} {F : List (List UInt8)} (h : SortedF L F) : SortedF (L.map Sy.norm) F := by
  unfold SortedF ltF at *
  simp only [lineOf_norm]
  exact h
theorem flc_norm (L : List Sy) : flc (L.map Sy.norm) = flc L := by
  funext t
  unfold flc
  rw [lineOf_norm, fcode_norm]
theorem namesF_eq {L : List Sy} {F : List (List UInt8)} (hn : (L.map Sy.name).Nodup) (hs : SortedF L F) (hp : F.Perm (missN L (namesN L))) : namesF (L.map Sy.norm) = F := by
  unfold namesF
  exact faults_same (by rw [norm_names]; exact hn) (sortedF_norm hs) (by rw [missN_norm, namesN_norm]; exact hp)
theorem run_slen {P : Program} {w : World} {T K E : TypeId} (ht : P.underlying T = some (.map K E)) {b : Nat} {l : List (ByteArray × Value)} (h : SMap w b l) (ty : TypeId) : (Builtin.len_ #[T] ty #[.map (some b)]).run P w = .ok (.int .i64 l.length) w := by
  obtain ⟨es, c, hb, he, _⟩ := h
  have hl : es.size = l.length := by
    have := congrArg List.length he
    simpa using this
  simp [Builtin.len_, run_underlying ht, MapKept.run_getObj_map hb, goInt, Result.andThen, hl]
set_option maxHeartbeats 4000000 in
set_option maxRecDepth 100000 in
theorem lawSFaults (v : Value) (l : List Dfn) (w : World) (h0 : Row w v l.length (l.flatMap dfnc) ∧ l.length ≤ maxLen ∧ ∀ d ∈ l, d.name.size ≤ maxLen ∧ d.text.size ≤ maxLen) :
    Calls Tryz.prog 8 #[v] w fun e w' => e = .returned (.bool true) ∧ Below w.heap.size w w' := by
  have hbu := build_any l v w h0.1 h0.2.1 h0.2.2
  unfold BuildRes at hbu
  have HBU := Lib.hid hbu
  clear hbu h0
  go_enter Tryz.func8, Tryz.ntmps8
  go_wp2_with fail
  (with_reducible refine HBU.out.mono ?_)
  rintro e w2 ⟨hb2, hres⟩
  have HBW := Lib.hid hb2
  clear hb2
  rcases hres with ⟨_, rfl⟩ | ⟨L, g, b, rv, hL, rfl, htabs, _⟩
  · go_wp2_with fail
    (with_reducible refine (alive20 _).mono ?_)
    rintro e w4 ⟨rfl, hb4⟩
    have HB4 := Lib.hid hb4; clear hb4
    go_wp2_with fail
    go_ret
    exact ⟨rfl, bthen2 HBW.out HB4.out⟩
  · obtain ⟨M, R, hp⟩ := htabs.parts hL
    have hL20 := (tableD_ok hL).2
    have hnd : (L.map Sy.name).Nodup := by rw [← hp.hr]; exact hp.ndR
    have hML : M.length = L.length := by have := congrArg List.length hp.hm; simpa using this
    have hRL : R.length = L.length := by have := congrArg List.length hp.hr; simpa using this
    have hf := faults_any g b M hp.okM (by omega) hp.nmM w2 hp.ti
    rw [hp.hm, flc_norm] at hf
    have hrf := fun w' (hb : Below w2.heap.size w2 w') => rfaults_any R hp.okR hp.lenR hp.ndR rv w' (hp.below hb).rt
    rw [hp.hr] at hrf
    obtain ⟨a, cap, rfl, hcap, _⟩ := hp.rt.row
    have hcnt := miss_count hnd
    have hkn := hp.known
    have HP := Lib.hid hp
    have HF := Lib.hid hf
    have HRF := Lib.hid hrf
    have HND := Lib.hid hnd
    have HCNT := Lib.hid hcnt
    have HRL := Lib.hid hRL
    clear hL htabs hp hf hrf hnd hML hRL hcnt hkn
    go_wp2_with fail
    (with_reducible refine HF.out.mono ?_)
    rintro e w3 ⟨vf, rfl, hr3, hb3⟩
    obtain ⟨af, capf, rfl, hcapf, _⟩ := hr3.structs (flc L) 2 (fun _ => rfl) (by decide)
    have HR3 := Lib.hid hr3
    have HB3 := Lib.hid hb3
    clear hr3 hb3
    go_wp2_with fail
    (with_reducible refine (alive20 _).mono ?_)
    rintro e w4 ⟨rfl, hb4⟩
    have HR4 := Lib.hid (HR3.out.below hb4)
    have HB4 : Hid (Below w2.heap.size w2 w4) := Lib.hid (bthen2 HB3.out hb4)
    clear hb4
    go_wp2_with fail
    (with_reducible refine (HRF.out _ HB4.out).mono ?_)
    rintro e w5 ⟨vo, F, rfl, hr5, hs5, hp5, hb5⟩
    have hfe := namesF_eq HND.out hs5 hp5
    have hr45 := HR4.out.below hb5
    have hFl : F.length + (knownR L).length = R.length := by rw [HRL.out, ← HCNT.out, hp5.length_eq]
    rw [hfe] at hr45
    have HFE := Lib.hid hfe
    have HR45 := Lib.hid hr45
    have HR5 := Lib.hid hr5
    have HB5 : Hid (Below w2.heap.size w2 w5) := Lib.hid (bthen2 HB4.out hb5)
    have HFL := Lib.hid hFl
    have HF6 : Hid (F.length ≤ 1000000) := Lib.hid (by have := HP.out.lenR; omega)
    clear hb5 hr5 hs5 hp5 hfe hr45 hFl
    go_wp2_with fail
    (with_reducible refine (eqFaults_any L F _ _ _ (by have := HR45.out; rw [← HFE.out] at this ⊢; exact this) HR5.out HF6.out).mono ?_)
    rintro e w6 ⟨rfl, hb6⟩
    have HB6 : Hid (Below w2.heap.size w2 w6) := Lib.hid (bthen2 HB5.out hb6)
    clear hb6
    go_wp2_with fail
    (with_reducible refine (HP.out.below HB6.out).known.mono ?_)
    rintro e w7 ⟨m, rfl, hm7, hb7⟩
    obtain ⟨bo, lK, rfl, hsm, hob⟩ := hm7
    have hlK : lK.length = (knownR L).length := env_len hsm.nodup (knownR_nodup HND.out) hob (knownR_env HND.out)
    have HSM := Lib.hid hsm
    have HB7 : Hid (Below w2.heap.size w2 w7) := Lib.hid (bthen2 HB6.out hb7)
    have hsum : ((namesF (L.map Sy.norm)).length : Int) + (lK.length : Int) = (R.length : Int) := by
      rw [HFE.out, hlK]
      have := HFL.out
      omega
    have hRb : (R.length : Int) ≤ 1000 := by have := HP.out.lenR; omega
    have hR0 : (0 : Int) ≤ (R.length : Int) := by omega
    have HSUM := Lib.hid hsum
    clear hsum
    clear hb7 hsm hob hlK
    have hrun := run_slen (P := Tryz.prog) Tryz.underlying49 HSM.out 3
    go_wp2_with fail
    go_ret
    refine ⟨?_, bthen2 HBW.out HB7.out⟩
    rw [HSUM.out]
    have hw : wrap64 (R.length : Int) = (R.length : Int) := by unfold wrap64; omega
    simp [hw]
end Go.Proofs.YtnjpfhihbjihbaaGreatDoor

/- For all definitions, Faults returns the faults of the reference, one for each symbol without a value: SymbolsFaults returns true; no condition beyond the statement's own. -/
namespace Go.Proofs.YtnjpfhihbjihbaaGreatDoor.lawSymbolsFaults
open Go.ChangeShapes Go.WideShapes Go.ChangeAt Go.RowKit Go.Joins
open Go.ChangeMaps (open_string shut_string)

theorem own : ownKnob Tryz.prog.godebug = none := by kernel_rfl
theorem laidOut : laidOutB Tryz.prog = true := by kernel_rfl

/-- A table of the row's list reads as it is listed, wherever it stands on the list. -/
theorem tab_of_list {P : Program} {W : World} {name : String} {k : IntKind} {zs : List Int} {g : Nat} {t e : TypeId} {n : Nat}
    (hg : P.globalNamed name = some g) (hty : (P.globals[g]?).map (·.type) = some t) (ht : P.underlying t = some (.array n e)) (he : P.underlying e = some (.int k)) (hce : P.cellsOf e = 1) (hct : P.cellsOf t = n) :
    ∀ (l : List (String × DataW Unit)) (ps : List MemPlace), DataW.LaidVars P W l ps → (name, Lib.tabData k zs) ∈ l → Lib.TabIs P W name k zs
  | [], _, _, hm => by cases hm
  | x :: l, ps, h, hm => by
    obtain ⟨nm, d⟩ := x
    obtain ⟨g', t', cs, fuel, p, q, hg', ht', hvar, hd, hrest, _⟩ := h
    rcases List.mem_cons.1 hm with hm | hm
    · cases hm
      obtain rfl := Option.some.inj (hg.symm.trans hg')
      obtain rfl := Option.some.inj (hty.symm.trans ht')
      unfold Lib.TabIs
      rw [hvar, ← Lib.cells_of_tab ht he hce hct hd]
    · exact tab_of_list hg hty ht he hce hct l q hrest hm

theorem table {W : World} (h : laidMetH Tryz.prog Rows.symbolsFaultsRow.laid W) : Tabs W := by
  obtain ⟨ps, hv, _⟩ := h
  have ht : Lib.TabIs Tryz.prog W "math/bits.deBruijn64tab" .u8 [0, 1, 56, 2, 57, 49, 28, 3, 61, 58, 42, 50, 38, 29, 17, 4, 62, 47, 59, 36, 45, 43, 51, 22, 53, 39, 33, 30, 24, 18, 12, 5, 63, 55, 48, 27, 60, 41, 37, 16, 46, 35, 44, 21, 52, 32, 23, 11, 54, 26, 40, 15, 34, 20, 31, 10, 25, 14, 19, 9, 13, 8, 7, 6] :=
    tab_of_list (g := 3) (t := 249) (e := 5) (n := 64) (by kernel_rfl) (by kernel_rfl) Tryz.underlying249 Tryz.underlying5 (by kernel_rfl) (by kernel_rfl) _ ps hv (.tail _ (.head _))
  exact ht.cell (by kernel_rfl) 15 (by decide)

set_option maxRecDepth 100000 in
/-- What the walk gives, for every argument and every world that holds the tables. -/
theorem contract (H : Type) (enc : TypeId × Value → H) (W : World) (base : Nat) (args : Array Value) (ds gs : List (DataW H)) (before : List MemPlace)
    (hval : ∀ (j : Nat) t v, Tryz.f8.params[j]? = some t → args[j]? = some v → Value.okWide Tryz.prog W .any base t v)
    (hW : DataW.Whole enc Tryz.prog Tryz.f8.params.toList Rows.symbolsFaultsSpec.vars false W args.toList ds gs before) (_hL : laidMetH Tryz.prog Rows.symbolsFaultsRow.laid W) :
    Calls Tryz.prog 8 args W fun e W' => ∃ v, e = .returned v ∧ Rows.symbolsFaultsSpec.post enc Tryz.prog Tryz.f8 false true false false W args v W' := by
  have hW' := hW
  obtain ⟨p, q, hA0, hV, rfl, hfz, hnd⟩ := hW
  have hA : DataW.TrodAll enc Tryz.prog W 0 (fun _ => true) true Tryz.f8.params.toList args.toList ds p := hA0
  rw [Tryz.params8] at hA hval
  obtain ⟨v0, vs0, d0, ds0, p0, q0, hargs, rfl, rfl, h0, r0⟩ := trodAll_cons hA
  obtain ⟨rfl, rfl, rfl⟩ := trodAll_nil r0
  obtain rfl : args = #[v0] := by cases args; simp_all
  obtain ⟨rfl, rfl⟩ := trodVars_none hV
  have k0 := h0
  have lt0 : ∀ x ∈ p0, x.block < W.heap.size := by obtain ⟨m, hm⟩ := k0; exact DataW.trod_lt m _ _ _ hm
  obtain ⟨L0, hr0⟩ := open_dfns (hval 0 22 v0 rfl rfl) h0
  refine (lawSFaults v0 L0 W hr0).mono fun e W' ⟨he, bel⟩ => ?_
  subst he
  exact ⟨_, rfl, _, _, _, [], _, [], hW', trodAll_mk1 (shut_bool Tryz.underlying4 _), (trodAll_cons_mk (Below.trod laidOut (by kernel_rfl) (of_decide_eq_true (by kernel_rfl)) k0 bel lt0) trodAll_mk0), rfl, bel.frame _, fun h => by cases h⟩

/-- A world for the witness: the settled one, the tables holding what their initialisers lay. -/
noncomputable def laidWorld (os : Os) : World :=
  { World.holding Tryz.prog os ⟨#[], #[], []⟩ with heap := ((((World.holding Tryz.prog os ⟨#[], #[], []⟩).heap.modify 2 fun
      | .cells _ t frozen => .cells #[.int .u8 0, .int .u8 1, .int .u8 28, .int .u8 2, .int .u8 29, .int .u8 14, .int .u8 24, .int .u8 3, .int .u8 30, .int .u8 22, .int .u8 20, .int .u8 15, .int .u8 25, .int .u8 17, .int .u8 4, .int .u8 8, .int .u8 31, .int .u8 27, .int .u8 13, .int .u8 23, .int .u8 21, .int .u8 19, .int .u8 16, .int .u8 7, .int .u8 26, .int .u8 12, .int .u8 18, .int .u8 6, .int .u8 11, .int .u8 5, .int .u8 10, .int .u8 9] t frozen
      | o => o).modify 3 fun
      | .cells _ t frozen => .cells #[.int .u8 0, .int .u8 1, .int .u8 56, .int .u8 2, .int .u8 57, .int .u8 49, .int .u8 28, .int .u8 3, .int .u8 61, .int .u8 58, .int .u8 42, .int .u8 50, .int .u8 38, .int .u8 29, .int .u8 17, .int .u8 4, .int .u8 62, .int .u8 47, .int .u8 59, .int .u8 36, .int .u8 45, .int .u8 43, .int .u8 51, .int .u8 22, .int .u8 53, .int .u8 39, .int .u8 33, .int .u8 30, .int .u8 24, .int .u8 18, .int .u8 12, .int .u8 5, .int .u8 63, .int .u8 55, .int .u8 48, .int .u8 27, .int .u8 60, .int .u8 41, .int .u8 37, .int .u8 16, .int .u8 46, .int .u8 35, .int .u8 44, .int .u8 21, .int .u8 52, .int .u8 32, .int .u8 23, .int .u8 11, .int .u8 54, .int .u8 26, .int .u8 40, .int .u8 15, .int .u8 34, .int .u8 20, .int .u8 31, .int .u8 10, .int .u8 25, .int .u8 14, .int .u8 19, .int .u8 9, .int .u8 13, .int .u8 8, .int .u8 7, .int .u8 6] t frozen
      | o => o).modify 1 fun
      | .cells _ t frozen => .cells #[.int .u64 1, .int .u64 10, .int .u64 100, .int .u64 1000, .int .u64 10000, .int .u64 100000, .int .u64 1000000, .int .u64 10000000, .int .u64 100000000, .int .u64 1000000000, .int .u64 10000000000, .int .u64 100000000000, .int .u64 1000000000000, .int .u64 10000000000000, .int .u64 100000000000000, .int .u64 1000000000000000, .int .u64 10000000000000000, .int .u64 100000000000000000, .int .u64 1000000000000000000, .int .u64 10000000000000000000] t frozen
      | o => o) }
theorem laid_met (os : Os) : laidMet Tryz.prog Rows.symbolsFaultsRow.laid ((laidWorld os).forCall (fun _ _ => 0) ⟨#[], #[Value.slice none 0 0], []⟩).memory :=
  laidMet_of_run' 8 (by kernel_rfl) (by kernel_rfl)
theorem reads (os : Os) {H : Type} (enc : TypeId × Value → H) : ∃ places, DataW.whole enc Tryz.prog ((laidWorld os).forCall (fun _ _ => 0) ⟨#[], #[Value.slice none 0 0], []⟩).memory Tryz.f8.params.toList Rows.symbolsFaultsSpec.vars false (#[Value.slice none 0 0] : Array Value).toList 8 = some ([.nil], [], places) :=
  ⟨[], by kernel_rfl⟩

set_option maxRecDepth 100000 in
theorem lifted (os : Os) (started : os.Started) (H : Type) (enc : TypeId × Value → H) (F : Stop.Interp) :
    ReturnsInHanded {} Tryz.checked os 8 .any ((OpenSpec.ofChange Rows.symbolsFaultsSpec).preRow enc Tryz.prog Tryz.f8 Rows.symbolsFaultsRow.domain false Rows.symbolsFaultsRow.laid) (((OpenSpec.ofChange Rows.symbolsFaultsSpec).at F).post enc Tryz.prog Tryz.f8 false true false false) := by
  obtain ⟨places, hx⟩ := reads os enc
  refine returnsInHanded_of_row (C := Tryz.checked) (s := OpenSpec.ofChange Rows.symbolsFaultsSpec) own started (by kernel_rfl) Tryz.func8
    (witness_row_at (enc := enc) (C := Tryz.checked) false (laidWorld os) #[Value.slice none 0 0] rfl (by kernel_rfl) (by kernel_rfl) (by kernel_rfl)
      (OpenSpec.preRow_of_cond 8 hx (by kernel_rfl) (fun k hk => by cases hk) (by kernel_rfl) (laid_met os))) ?_
  intro W base args ds gs before hval hW _ _ _ hL _ _
  exact contract H enc W base args ds gs before hval hW hL

theorem said : Rows.SymbolsFaultsSaid :=
  OpenClaim.holds_of_cond 8 Tryz.f8 rfl rfl rfl rfl rfl rfl rfl ⟨rfl, rfl, rfl, rfl, rfl⟩ rfl rfl rfl rfl rfl (by kernel_rfl) Tryz.func8 (by kernel_rfl)
    (of_decide_eq_true (by kernel_rfl)) (by unfold Func.isWrapper; first | (rw [if_pos (by decide +kernel)]; kernel_rfl) | (rw [if_neg (by decide +kernel)]; exact ⟨rfl, rfl⟩))
    (fun os started H enc _ F => by rw [OpenClaim.pre_eq_preRow]; exact lifted os started H enc F)

/-- No parameter wants a stand-in; the program's own looks are off. -/
theorem plain (f : FuncId) (fn : Func) (hf : Tryz.pinned.checked.prog.funcNamed "breadboard/breadboardlaw20.SymbolsFaults" = some f) (hfn : Tryz.pinned.checked.prog.funcs[f]? = some fn) :
    true = Tryz.pinned.checked.prog.looks [] ∧ ∀ (j : Nat) t, fn.params[j]? = some t → Tryz.pinned.checked.prog.wantsStandIn t = false := by
  obtain rfl : f = 8 := Option.some.inj ((show Tryz.prog.funcNamed "breadboard/breadboardlaw20.SymbolsFaults" = some 8 by kernel_rfl).symm.trans hf) |>.symm
  obtain rfl : fn = Tryz.f8 := (Option.some.inj (Tryz.func8.symm.trans hfn)).symm
  refine ⟨by kernel_rfl, fun j t ht => ?_⟩
  rw [Tryz.params8] at ht
  have hm : t ∈ [22] := by simpa using Array.mem_of_getElem? ht
  have hall : ([22].all fun u => !Tryz.prog.wantsStandIn u) = true := by kernel_rfl
  exact (show Tryz.prog.wantsStandIn t = false by simpa using List.all_eq_true.1 hall t hm)

/-- The card. -/
theorem proved : Rows.SymbolsFaultsCardSaid :=
  Claim7.holds_tied_plain_at .later [] _ _ _ _ said (fun _ h => by cases h) (by kernel_rfl) (fun _ h => by cases h) symbolsFaults_row_tie rfl ⟨rfl, rfl⟩ (by kernel_rfl) rfl plain (by kernel_rfl)
end Go.Proofs.YtnjpfhihbjihbaaGreatDoor.lawSymbolsFaults
