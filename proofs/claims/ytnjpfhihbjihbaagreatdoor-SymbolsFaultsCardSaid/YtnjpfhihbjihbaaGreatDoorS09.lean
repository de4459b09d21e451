/- Joined texts: Uniq, Cells, SortC, Reserved, Node, NamesE, TokRes, StepApp. -/
import Derived.Test.YtnjpfhihbjihbaaGreatDoorS01
import Derived.Test.YtnjpfhihbjihbaaGreatDoorS05
import Derived.Test.YtnjpfhihbjihbaaGreatDoorS06
import Derived.Test.YtnjpfhihbjihbaaGreatDoorS07
import Derived.Test.YtnjpfhihbjihbaaGreatDoorS08
import Derived.Deep.RegionLaw
import Derived.Laws.AppendOwn
import Derived.Laws.OwnMore
import Derived.Lib.SlicesCompact
import Derived.Sort.KeysCollected
import Derived.Sort.OwnSorted
import Derived.StillTailTactics
/- Lists that are sorted and freed of doubles: they depend on the members alone. No program in sight. -/
namespace Go.Proofs.YtnjpfhihbjihbaaGreatDoor
open Go.RowKit Go.Sort

theorem nil_or_snoc {α : Type} (l : List α) : l = [] ∨ ∃ ys y, l = ys ++ [y] := by
  rcases List.eq_nil_or_concat l with h | ⟨ys, y, h⟩
  · exact .inl h
  · exact .inr ⟨ys, y, by rw [h, List.concat_eq_append]⟩
theorem get_snoc (zs : List (List UInt8)) (x : List UInt8) (j : Nat) (hj : j < zs.length) : (zs ++ [x]).toArray[j]! = zs.toArray[j]! := by
  simp [List.getElem?_append_left hj]
theorem get_snoc_last (zs : List (List UInt8)) (x : List UInt8) : (zs ++ [x]).toArray[zs.length]! = x := by simp

theorem compact_snoc (zs : List (List UInt8)) (x : List UInt8) : Lib.compact (zs ++ [x]) = Lib.compact zs ++ (if zs.getLast? = some x then [] else [x]) := by
  unfold Lib.compact
  rw [List.length_append, show [x].length = 1 from rfl, Lib.compactUpTo_succ, get_snoc_last]
  have hk : ∀ j, j < zs.length → Lib.keeps (zs ++ [x]).toArray j = Lib.keeps zs.toArray j := fun j hj => by
    unfold Lib.keeps
    rw [get_snoc zs x j hj, get_snoc zs x (j - 1) (by omega)]
  have h1 : Lib.compactUpTo (zs ++ [x]).toArray zs.length = Lib.compactUpTo zs.toArray zs.length := by
    unfold Lib.compactUpTo
    rw [List.filter_congr (fun j hj => hk j (List.mem_range.1 hj))]
    apply List.map_congr_left
    intro j hj
    exact get_snoc zs x j (List.mem_range.1 (List.mem_filter.1 hj).1)
  rw [h1]
  congr 1
  rcases nil_or_snoc zs with rfl | ⟨ys, y, rfl⟩
  · simp [Lib.keeps]
  · have hl : (ys ++ [y]).length = ys.length + 1 := by simp
    unfold Lib.keeps
    rw [get_snoc_last, hl, show ys.length + 1 - 1 = ys.length by omega, get_snoc (ys ++ [y]) x ys.length (by omega), get_snoc_last]
    simp only [List.getLast?_append, List.getLast?_singleton, Option.some_or, Option.some.injEq]
    by_cases h : y = x
    · subst h; simp
    · simp [h, Ne.symm h]

theorem mem_compact (zs : List (List UInt8)) (x : List UInt8) : x ∈ Lib.compact zs ↔ x ∈ zs := by
  rcases nil_or_snoc zs with rfl | ⟨ys, y, rfl⟩
  · simp [Lib.compact, Lib.compactUpTo]
  · have ih := mem_compact ys x
    rw [compact_snoc, List.mem_append, List.mem_append, ih]
    split
    · rename_i h
      have := List.mem_of_getLast? h
      constructor
      · rintro (h | h)
        · exact .inl h
        · cases h
      · rintro (h | h)
        · exact .inl h
        · rw [List.mem_singleton] at h; subst h; exact .inl this
    · rfl
  termination_by zs.length
  decreasing_by simp_all

theorem pair_compact (zs : List (List UInt8)) (h : zs.Pairwise (· ≤ ·)) : (Lib.compact zs).Pairwise (· < ·) := by
  rcases nil_or_snoc zs with rfl | ⟨ys, y, rfl⟩
  · simp [Lib.compact, Lib.compactUpTo]
  · rw [List.pairwise_append] at h
    obtain ⟨h1, _, h2⟩ := h
    have ih := pair_compact ys h1
    rw [compact_snoc]
    split
    · simpa using ih
    · rename_i hne
      rw [List.pairwise_append]
      refine ⟨ih, List.pairwise_singleton _ _, fun a ha b hb => ?_⟩
      rw [List.mem_singleton] at hb; subst hb
      have hay : a ≤ b := h2 a ((mem_compact ys a).1 ha) b (List.mem_singleton.2 rfl)
      rcases nil_or_snoc ys with rfl | ⟨us, u, rfl⟩
      · simp [Lib.compact, Lib.compactUpTo] at ha
      · have hub : u ≤ b := h2 u (by simp) b (List.mem_singleton.2 rfl)
        have hune : u ≠ b := by intro e; apply hne; simp [e]
        have hau : a ≤ u := by
          have hm := (mem_compact (us ++ [u]) a).1 ha
          rw [List.mem_append] at hm
          rcases hm with hm | hm
          · rw [List.pairwise_append] at h1
            exact h1.2.2 a hm u (List.mem_singleton.2 rfl)
          · rw [List.mem_singleton] at hm; subst hm; exact List.le_refl _
        have hub2 : u < b := by
          rcases Decidable.em (u < b) with h | h
          · exact h
          · exact absurd (List.le_antisymm hub (List.not_lt.1 h)) hune
        exact List.lt_of_le_of_lt hau hub2
  termination_by zs.length
  decreasing_by simp_all

/-- Sorted, each once. -/
def uniq (l : List (List UInt8)) : List (List UInt8) := Lib.compact (l.mergeSort fun x y => decide (x ≤ y))
theorem mem_uniq (l : List (List UInt8)) (x : List UInt8) : x ∈ uniq l ↔ x ∈ l := by
  unfold uniq
  rw [mem_compact, List.mem_mergeSort]
theorem pair_uniq (l : List (List UInt8)) : (uniq l).Pairwise (· < ·) := by
  unfold uniq
  apply pair_compact
  have := List.pairwise_mergeSort (le := fun x y : List UInt8 => decide (x ≤ y)) (fun a b c h1 h2 => by simp only [decide_eq_true_eq] at *; exact List.le_trans h1 h2) (fun a b => by simp only [Bool.or_eq_true, decide_eq_true_eq]; exact List.le_total a b) l
  exact this.imp (fun h => by simpa using h)

/-- Sorted lists without doubles that have the same members are equal. -/
theorem pair_ext {l m : List (List UInt8)} (h1 : l.Pairwise (· < ·)) (h2 : m.Pairwise (· < ·)) (h : ∀ x, x ∈ l ↔ x ∈ m) : l = m := by
  have hp : l.Perm m := (List.perm_ext_iff_of_nodup (h1.imp fun {a b} hab e => by subst e; exact List.lt_irrefl _ hab) (h2.imp fun {a b} hab e => by subst e; exact List.lt_irrefl _ hab)).2 h
  refine List.Perm.eq_of_pairwise (le := fun a b => a < b) (fun a b _ _ hab hba => ?_) h1 h2 hp
  exact absurd (List.lt_trans hab hba) (List.lt_irrefl _)
theorem uniq_ext {l m : List (List UInt8)} (h : ∀ x, x ∈ l ↔ x ∈ m) : uniq l = uniq m :=
  pair_ext (pair_uniq l) (pair_uniq m) fun x => by rw [mem_uniq, mem_uniq, h]
theorem uniq_append (l m : List (List UInt8)) : uniq (l ++ uniq m) = uniq (l ++ m) :=
  uniq_ext fun x => by simp [mem_uniq]
theorem uniq_append2 (l m k : List (List UInt8)) : uniq (l ++ (uniq m ++ uniq k)) = uniq (l ++ (m ++ k)) :=
  uniq_ext fun x => by simp [mem_uniq]
theorem uniq_nil : uniq [] = [] := by
  have h : ∀ x, x ∉ uniq [] := fun x hx => by simpa using (mem_uniq [] x).1 hx
  exact List.eq_nil_iff_forall_not_mem.2 h
end Go.Proofs.YtnjpfhihbjihbaaGreatDoor

/- Rows of strings. -/
namespace Go.Proofs.YtnjpfhihbjihbaaGreatDoor
open Go.RowKit Go.Sort

theorem Tryz.infoString : (Tryz.prog.info? 9).map (fun i => (i.zero, i.size, i.bytes)) = some (some (.string ⟨#[]⟩), 1, 16) := by kernel_rfl

theorem owns_below' {w w' : World} {base : Nat} {e : TypeId} {size : Nat} {v : Value} {n : Nat} {xs : List Value} (h : w.ownsRow base e size v n xs) (hb : Below w.heap.size w w') : w'.ownsRow base e size v n xs := by
  obtain ⟨h1, h2⟩ := h
  refine ⟨h1, ?_⟩
  rcases h2 with h2 | ⟨g, cap, cur, hv, hg, hh, r⟩
  · exact Or.inl h2
  · exact Or.inr ⟨g, cap, cur, hv, hg, by rw [hb.block g (lt_of_block hh)]; exact hh, r⟩

/-- The cells of strings. -/
def strc (l : List ByteArray) : List Value := l.map Value.string
theorem strc_len (l : List ByteArray) : (strc l).length = l.length := by simp [strc]

theorem strc_append (l m : List ByteArray) : strc (l ++ m) = strc l ++ strc m := by simp [strc]
end Go.Proofs.YtnjpfhihbjihbaaGreatDoor

/- The library's sort and compaction of a row of strings of one's own. -/
namespace Go.Proofs.YtnjpfhihbjihbaaGreatDoor
open Go.RowKit Go.Sort

theorem compactUpTo_len (d : Array (List UInt8)) : ∀ n, (Lib.compactUpTo d n).length ≤ n := fun n => by
  unfold Lib.compactUpTo
  rw [List.length_map]
  exact Nat.le_trans (List.length_filter_le _ _) (by simp)
theorem compact_len (l : List (List UInt8)) : (Lib.compact l).length ≤ l.length := compactUpTo_len _ _
theorem uniq_len (l : List (List UInt8)) : (uniq l).length ≤ l.length := by
  unfold uniq
  exact Nat.le_trans (compact_len _) (by simp)

theorem sort_any (base : Nat) (v : Value) (L : List (List UInt8)) (w : World) (hown : w.ownsRow base 9 1 v L.length (L.map Proofs.encStr)) (hnil : L = [] → v = .slice none 0 0) (hlen : L.length ≤ 1000000) (hb : base ≤ w.heap.size) :
    Calls Tryz.prog 20 #[v] w fun e w' => e = .returned (.tuple #[]) ∧ w'.ownsRow base 9 1 v L.length ((L.mergeSort fun x y => decide (x ≤ y)).map Proofs.encStr) ∧ Below base w w' := by
  rcases hL : L with _ | ⟨x, l⟩
  · rw [hnil hL]
    refine (Tryz.slices_Sort_string_none none 0 w).mono ?_
    rintro e w' ⟨rfl, rfl⟩
    exact ⟨rfl, by rw [List.mergeSort_nil]; exact World.ownsRow_nil _ _ _ _, Below.refl _ _⟩
  · rw [← hL]
    have hpos : 0 < L.length := by rw [hL]; simp
    clear hL
    rcases hown.2 with ⟨_, h0⟩ | ⟨g, cap, cur, rfl, hg, hbk, hn, hcap, hcur, htk⟩
    · omega
    have hgw : g < w.heap.size := lt_of_block hbk
    refine (Tryz.slices_Sort_string g 0 cap L w (holds_of_block hbk (by simpa using htk)) hgw (by omega)).mono ?_
    rintro e w2 ⟨rfl, n, os, hw2⟩
    refine ⟨rfl, ?_, ?_⟩
    · rw [hw2]
      exact ownsRow_sorted (n := n) (os := os) (ss := L) (ts := L.mergeSort fun x y => decide (x ≤ y)) (by simp) hg hbk hn hcap hcur
    · exact (Below.refl base w).grown (by rw [hw2]; exact grownBy_sorted _) hb (by intro q hq; cases hq; exact hg)

theorem compact_any (base : Nat) (v : Value) (L : List (List UInt8)) (w : World) (hown : w.ownsRow base 9 1 v L.length (L.map Proofs.encStr)) (hnil : L = [] → v = .slice none 0 0) (hlen : L.length ≤ 1000000) (hb : base ≤ w.heap.size) :
    Calls Tryz.prog 73 #[v] w fun e w' => ∃ v', e = .returned v' ∧ Row w' v' (Lib.compact L).length ((Lib.compact L).map Proofs.encStr) ∧ (Lib.compact L = [] → v' = .slice none 0 0) ∧ Below base w w' := by
  rcases hL : L with _ | ⟨x, l⟩
  · rw [hnil hL]
    refine (Tryz.slices_Compact_string_empty none 0 w).mono ?_
    rintro e w' ⟨rfl, rfl⟩
    exact ⟨_, rfl, Row.nil _, fun _ => rfl, Below.refl _ _⟩
  · rw [← hL]
    have hpos : 0 < L.length := by rw [hL]; simp
    have hne : Lib.compact L ≠ [] := fun h => by
      have : x ∈ Lib.compact L := (mem_compact L x).2 (by rw [hL]; simp)
      rw [h] at this; cases this
    clear hL
    rcases hown.2 with ⟨_, h0⟩ | ⟨g, cap, cur, rfl, hg, hbk, hn, hcap, hcur, htk⟩
    · omega
    refine (Tryz.slices_Compact_string g 0 cap L w (holds_of_block hbk (by simpa using htk)) (by omega) hn).mono ?_
    rintro e w3 ⟨rfl, q, hw3⟩
    have hcl := compact_len L
    have hw3' : w3 = grow (putRow Proofs.encStr (Sort.ahead w q) g 0 (Lib.compact L ++ List.replicate (L.length - (Lib.compact L).length) []).toArray) #[] := by rw [hw3, grow_empty]
    have hown3 : w3.ownsRow base 9 1 (.slice (some ⟨g, 0, none⟩) L.length cap) L.length ((Lib.compact L ++ List.replicate (L.length - (Lib.compact L).length) []).map Proofs.encStr) := by
      rw [hw3']
      exact ownsRow_sorted (n := q) (os := #[]) (ss := L) (ts := Lib.compact L ++ List.replicate (L.length - (Lib.compact L).length) []) (by rw [List.length_append, List.length_replicate]; omega) hg hbk hn hcap hcur
    refine ⟨_, rfl, ⟨_, _, rfl, by omega, fun _ => ?_⟩, fun h => absurd h hne, ?_⟩
    · obtain ⟨a4, c4, hv4, hc4, hr4⟩ := Row.of_owns hown3
      cases hv4
      obtain ⟨g5, o5, he5, hg5, hcs⟩ := hr4 (by
        rw [List.map_append]
        intro h
        have := List.append_eq_nil_iff.1 h
        exact hne (List.map_eq_nil_iff.1 this.1))
      cases he5
      refine ⟨g, 0, rfl, hg5, fun j hj => ?_⟩
      rw [List.length_map] at hj
      rw [hcs j (by rw [List.length_map, List.length_append]; omega), List.map_append, List.getElem?_append_left (by rw [List.length_map]; exact hj)]
    · exact (Below.refl base w).grown (by rw [hw3']; exact grownBy_sorted _) hb (by intro q hq; cases hq; exact hg)
end Go.Proofs.YtnjpfhihbjihbaaGreatDoor

/- slices.IndexFunc and ContainsFunc at rows of strings with operand.Reserved. -/
namespace Go.Proofs.YtnjpfhihbjihbaaGreatDoor
open Go.RowKit Go.Sort

def resv (y : List UInt8) : Bool := decide (0 < (namedL ⟨y.toArray⟩).length)
set_option maxHeartbeats 1000000 in
theorem indexFunc_any (v1 : Value) (L : List (List UInt8)) (w : World) (h1 : Row w v1 L.length (L.map Proofs.encStr)) (hl : L.length ≤ 1000000) (hs : ∀ y ∈ L, y.length ≤ maxLen) :
    Calls Tryz.prog 88 #[v1, .func (.func 72) #[] #[]] w fun e w' => (∃ i : Int, e = .returned (.int .i64 i) ∧ decide (0 ≤ i) = L.any resv) ∧ Below w.heap.size w w' := by
  obtain ⟨a1, c1, rfl, hc1, h1⟩ := h1
  have H1 := Lib.hid h1; clear h1
  have HS := Lib.hid hs; clear hs
  go_enter Tryz.func88, Tryz.ntmps88
  go_wp2_with fail
  go_loopw [5, 8] (fun _ i wr => ∃ j : Nat, j ≤ L.length ∧ i = .int .i64 j ∧ Below w.heap.size w wr ∧ Hid ((L.take j).any resv = false)) (fun _ i _ => L.length - (intOf i).toNat)
  case atStart => exact ⟨0, Nat.zero_le _, rfl, Below.refl _ _, Lib.hid (by simp)⟩
  case round =>
    obtain ⟨j, hj, rfl, hbel, Hno⟩ := hrel
    have HBEL := Lib.hid hbel; clear hbel
    by_cases hlt : j < L.length
    · obtain ⟨y, hy⟩ : ∃ y, L[j]? = some y := ⟨_, List.getElem?_eq_getElem hlt⟩
      obtain ⟨g, o, rfl, hg, hc⟩ := H1.out (by intro e; rw [List.map_eq_nil_iff] at e; rw [e] at hlt; exact absurd hlt (Nat.not_lt_zero _))
      have hcy : wr.cell? ⟨g, o + j, none⟩ = some (.string ⟨y.toArray⟩) := by
        rw [HBEL.out.cell (p := ⟨g, o + j, none⟩) hg, hc j (by rw [List.length_map]; exact hlt), List.getElem?_map, hy]; rfl
      clear hc
      have hi0 : (0 : Int) ≤ (j : Int) := by omega
      have hi1 : (j : Int) < (L.length : Int) := by omega
      have hsz : w.heap.size ≤ wr.heap.size := HBEL.out.size
      have hgw : g < wr.heap.size := by omega
      have hmem : y ∈ L := List.mem_of_getElem? hy
      have hcall := reserved_any ⟨y.toArray⟩ wr (by have := HS.out y hmem; show y.toArray.size ≤ maxLen; simpa using this)
      obtain ⟨r, hr⟩ : ∃ r, resv y = r := ⟨_, rfl⟩
      have hr' : decide (0 < (namedL ⟨y.toArray⟩).length) = r := hr
      rw [hr'] at hcall
      have HCALL := Lib.hid hcall; clear hcall
      have HR := Lib.hid hr; clear hr hr'
      have HY := Lib.hid hy; clear hy
      have HM := Lib.hid hmem; clear hmem
      go_wp2_with fail
      refine HCALL.out.mono ?_
      rintro e w1 ⟨rfl, hb⟩
      have HB := Lib.hid (HBEL.out.trans (hb.mono hsz)); clear hb
      cases r with
      | true =>
        go_wp2_with fail
        go_ret
        exact ⟨⟨j, rfl, by rw [decide_eq_true hi0]; exact (List.any_eq_true.2 ⟨y, HM.out, HR.out⟩).symm⟩, HB.out⟩
      | false =>
        go_wp2_with fail
        go_roundw
        case rel => exact ⟨j + 1, by omega, by go_num, HB.out, Lib.hid (by rw [List.take_add_one, HY.out]; simp [Hno.out, HR.out])⟩
        case measure => simp [intOf]; omega
    · obtain rfl : j = L.length := by omega
      have hno : L.any resv = false := by have := Hno.out; rwa [List.take_length] at this
      have HNO := Lib.hid hno; clear hno
      go_wp2_with fail
      go_ret
      exact ⟨⟨-1, rfl, by rw [HNO.out]; rfl⟩, HBEL.out⟩

theorem containsFunc_any (v1 : Value) (L : List (List UInt8)) (w : World) (h1 : Row w v1 L.length (L.map Proofs.encStr)) (hl : L.length ≤ 1000000) (hs : ∀ y ∈ L, y.length ≤ maxLen) :
    Calls Tryz.prog 71 #[v1, .func (.func 72) #[] #[]] w fun e w' => e = .returned (.bool (L.any resv)) ∧ Below w.heap.size w w' := by
  have hc := indexFunc_any v1 L w h1 hl hs
  have HC := Lib.hid hc; clear hc h1 hs
  go_enter Tryz.func71, Tryz.ntmps71
  go_wp2_with fail
  refine HC.out.mono ?_
  rintro e w1 ⟨⟨i, rfl, hi⟩, hb⟩
  have HI := Lib.hid hi; clear hi
  have HB := Lib.hid hb; clear hb
  go_wp2_with fail
  go_ret
  exact ⟨by rw [← HI.out]; rfl, HB.out⟩
end Go.Proofs.YtnjpfhihbjihbaaGreatDoor

/- Expressions in memory, and what the parser's methods leave. -/
namespace Go.Proofs.YtnjpfhihbjihbaaGreatDoor
open Go.RowKit Go.Sort

/-- An expression as it lies in memory, every node in a block from B on; T: the nodes' type. -/
def NodeAt (T : TypeId) (B : Nat) (w : World) : Ex → Value → Prop
  | .num n, v => ∃ g, B ≤ g ∧ v = .pointer (some ⟨g, 0, none⟩) ∧ w.heap[g]? = some (.cells #[.int .i64 1, .int .i64 n, .string ⟨#[]⟩, .pointer none, .pointer none] T (0, 0))
  | .sym s, v => ∃ g, B ≤ g ∧ v = .pointer (some ⟨g, 0, none⟩) ∧ w.heap[g]? = some (.cells #[.int .i64 2, .int .i64 0, .string s, .pointer none, .pointer none] T (0, 0))
  | .here, v => ∃ g, B ≤ g ∧ v = .pointer (some ⟨g, 0, none⟩) ∧ w.heap[g]? = some (.cells #[.int .i64 3, .int .i64 0, .string ⟨#[]⟩, .pointer none, .pointer none] T (0, 0))
  | .un op a, v => ∃ g va, B ≤ g ∧ v = .pointer (some ⟨g, 0, none⟩) ∧ w.heap[g]? = some (.cells #[.int .i64 4, .int .i64 0, .string op, va, .pointer none] T (0, 0)) ∧ NodeAt T B w a va
  | .bin op a b, v => ∃ g va vb, B ≤ g ∧ v = .pointer (some ⟨g, 0, none⟩) ∧ w.heap[g]? = some (.cells #[.int .i64 5, .int .i64 0, .string op, va, vb] T (0, 0)) ∧ NodeAt T B w a va ∧ NodeAt T B w b vb

theorem NodeAt.keep {T : TypeId} {B : Nat} {w w' : World} (hk : ∀ k, B ≤ k → k < w.heap.size → w'.heap[k]? = w.heap[k]?) : ∀ (x : Ex) (v : Value), NodeAt T B w x v → NodeAt T B w' x v
  | .num n, v, ⟨g, h1, h2, h3⟩ => ⟨g, h1, h2, by rw [hk g h1 (lt_of_block h3)]; exact h3⟩
  | .sym s, v, ⟨g, h1, h2, h3⟩ => ⟨g, h1, h2, by rw [hk g h1 (lt_of_block h3)]; exact h3⟩
  | .here, v, ⟨g, h1, h2, h3⟩ => ⟨g, h1, h2, by rw [hk g h1 (lt_of_block h3)]; exact h3⟩
  | .un op a, v, ⟨g, va, h1, h2, h3, h4⟩ => ⟨g, va, h1, h2, by rw [hk g h1 (lt_of_block h3)]; exact h3, NodeAt.keep hk a va h4⟩
  | .bin op a b, v, ⟨g, va, vb, h1, h2, h3, h4, h5⟩ => ⟨g, va, vb, h1, h2, by rw [hk g h1 (lt_of_block h3)]; exact h3, NodeAt.keep hk a va h4, NodeAt.keep hk b vb h5⟩
theorem NodeAt.below {T : TypeId} {B : Nat} {w w' : World} {x : Ex} {v : Value} (h : NodeAt T B w x v) (hb : Below w.heap.size w w') : NodeAt T B w' x v := NodeAt.keep (fun k _ hk => hb.block k hk) x v h
theorem NodeAt.kb {T : TypeId} {B b : Nat} {w w' : World} {x : Ex} {v : Value} (h : NodeAt T B w x v) (hb : Kb b w w') (hlt : b < B) : NodeAt T B w' x v := NodeAt.keep (fun k h1 hk => hb.block k hk (by omega)) x v h
theorem NodeAt.mono {T : TypeId} {B B' : Nat} {w : World} (hB : B' ≤ B) : ∀ (x : Ex) (v : Value), NodeAt T B w x v → NodeAt T B' w x v
  | .num n, v, ⟨g, h1, h2, h3⟩ => ⟨g, by omega, h2, h3⟩
  | .sym s, v, ⟨g, h1, h2, h3⟩ => ⟨g, by omega, h2, h3⟩
  | .here, v, ⟨g, h1, h2, h3⟩ => ⟨g, by omega, h2, h3⟩
  | .un op a, v, ⟨g, va, h1, h2, h3, h4⟩ => ⟨g, va, by omega, h2, h3, NodeAt.mono hB a va h4⟩
  | .bin op a b, v, ⟨g, va, vb, h1, h2, h3, h4, h5⟩ => ⟨g, va, vb, by omega, h2, h3, NodeAt.mono hB a va h4, NodeAt.mono hB b vb h5⟩
theorem NodeAt.ptr {T : TypeId} {B : Nat} {w : World} {x : Ex} {v : Value} (h : NodeAt T B w x v) : ∃ g, v = .pointer (some ⟨g, 0, none⟩) ∧ g < w.heap.size := by
  cases x with
  | num n => obtain ⟨g, _, h2, h3⟩ := h; exact ⟨g, h2, lt_of_block h3⟩
  | sym s => obtain ⟨g, _, h2, h3⟩ := h; exact ⟨g, h2, lt_of_block h3⟩
  | here => obtain ⟨g, _, h2, h3⟩ := h; exact ⟨g, h2, lt_of_block h3⟩
  | un op a => obtain ⟨g, va, _, h2, h3, _⟩ := h; exact ⟨g, h2, lt_of_block h3⟩
  | bin op a b => obtain ⟨g, va, vb, _, h2, h3, _⟩ := h; exact ⟨g, h2, lt_of_block h3⟩

/-- What a method of the parser leaves. -/
def ParRes (res : Option (Ex × List Tok)) (b : Nat) (w : World) (e : Ending) (w' : World) : Prop :=
  Kb b w w' ∧ match res with
  | none => e = .panicked wrongP
  | some x => ∃ v, e = .returned v ∧ NodeAt 130 (b + 1) w' x.1 v ∧ StrAt w' b x.2
def BRes (lv : Nat) (l : List Tok) (b : Nat) (w : World) (e : Ending) (w' : World) : Prop := ∃ res, P exLang (.B lv l) res ∧ ParRes res b w e w'
def URes (l : List Tok) (b : Nat) (w : World) (e : Ending) (w' : World) : Prop := ∃ res, P exLang (.U l) res ∧ ParRes res b w e w'
def Small (l : List Tok) : Prop := ∀ t ∈ l, t.text.size ≤ 1000000
def BC (l : List Tok) : Prop := ∀ (lv b : Nat) (w : World), Small l → StrAt w b l → Calls Tryz.prog 70 #[.pointer (some ⟨b, 0, none⟩), .int .i64 lv] w (BRes lv l b w)
def UC (l : List Tok) : Prop := ∀ (b : Nat) (w : World), Small l → StrAt w b l → Calls Tryz.prog 121 #[.pointer (some ⟨b, 0, none⟩)] w (URes l b w)
def OC (l : List Tok) : Prop := ∀ (b : Nat) (w : World), Small l → StrAt w b l → (∀ t r, l = t :: r → tU t = false) → Calls Tryz.prog 154 #[.pointer (some ⟨b, 0, none⟩)] w (URes l b w)
theorem Small.tail {t : Tok} {l : List Tok} (h : Small (t :: l)) : Small l := fun x hx => h x (List.mem_cons_of_mem _ hx)
theorem P.ends {s : St Tok Ex} {res : Option (Ex × List Tok)} (h : P exLang s res) : ∀ e r, res = some (e, r) → (∀ l, s = .U l → ∃ l1, l = l1 ++ r ∧ l1 ≠ []) ∧ (∀ lv l, s = .B lv l → ∃ l1, l = l1 ++ r ∧ l1 ≠ []) := by
  intro e r he
  have hs := h.sound exLang
  refine ⟨fun l hl => ?_, fun lv l hl => ?_⟩
  · subst hl
    obtain ⟨l1, h1, h2⟩ := hs e r he
    exact ⟨l1, h1, h2.ne_nil exLang⟩
  · subst hl
    obtain ⟨l1, h1, h2, _⟩ := hs e r he
    exact ⟨l1, h1, h2.ne_nil exLang⟩
theorem Small.suffix {l1 r : List Tok} (h : Small (l1 ++ r)) : Small r := fun x hx => h x (List.mem_append_right _ hx)
theorem str_get0 (s : ByteArray) (h : 0 < s.size) : s.data.toList = s[0] :: s.data.toList.drop 1 := by
  have h2 := List.drop_eq_getElem_cons (l := s.data.toList) (i := 0) (by simpa using h)
  rw [List.drop_zero] at h2
  rw [h2]
  simp; rfl
theorem head_byte (s : ByteArray) (h0 : 0 < s.size) : ((s.toList.headD 0).toNat : Int) = (s[0].toNat : Int) := by
  rw [ByteArray.toList_eq, str_get0 s h0]; rfl
end Go.Proofs.YtnjpfhihbjihbaaGreatDoor

/- expr.Names. -/
namespace Go.Proofs.YtnjpfhihbjihbaaGreatDoor
open Go.RowKit Go.Sort

/-- How many nodes an expression has. -/
def Ex.nodes : Ex → Nat
  | .num _ => 1
  | .sym _ => 1
  | .here => 1
  | .un _ a => 1 + a.nodes
  | .bin _ a b => 1 + a.nodes + b.nodes
def oNodes : Option Ex → Nat | none => 0 | some x => x.nodes
def lNodes : List (Option Ex) → Nat | [] => 0 | o :: l => oNodes o + lNodes l
/-- The parts of a node. -/
def Ex.kids : Ex → List (Option Ex)
  | .un _ a => [some a, none]
  | .bin _ a b => [some a, some b]
  | _ => [none, none]
theorem kids_nodes (x : Ex) : lNodes x.kids + 1 ≤ x.nodes := by cases x <;> simp [Ex.kids, lNodes, oNodes, Ex.nodes] <;> omega
/-- The symbols of some expressions. -/
def oSyms : Option Ex → List (List UInt8) | none => [] | some x => x.syms.map (·.data.toList)
def lSyms (l : List (Option Ex)) : List (List UInt8) := l.flatMap oSyms
def Ex.own : Ex → List (List UInt8)
  | .sym s => [s.data.toList]
  | _ => []
theorem own_kids (x : Ex) : oSyms (some x) = x.own ++ lSyms x.kids := by
  cases x <;> simp [oSyms, lSyms, Ex.own, Ex.kids, Ex.syms]
theorem syms_len : ∀ (x : Ex), x.syms.length ≤ x.nodes
  | .num _ => by simp [Ex.syms]
  | .sym _ => by simp [Ex.syms, Ex.nodes]
  | .here => by simp [Ex.syms]
  | .un _ a => by have := syms_len a; simp only [Ex.syms, Ex.nodes]; omega
  | .bin _ a b => by have := syms_len a; have := syms_len b; simp only [Ex.syms, Ex.nodes, List.length_append]; omega
theorem lSyms_len : ∀ (l : List (Option Ex)), (lSyms l).length ≤ lNodes l
  | [] => by simp [lSyms]
  | o :: l => by
    have := lSyms_len l
    have h : (oSyms o).length ≤ oNodes o := by
      cases o with
      | none => simp [oSyms]
      | some x => simpa [oSyms, oNodes] using syms_len x
    unfold lSyms at *
    rw [List.flatMap_cons, List.length_append]
    unfold lNodes
    omega
/-- A pointer that is nil or leads to an expression. -/
def OptAt (T : TypeId) (w : World) (o : Option Ex) (v : Value) : Prop := match o with | none => v = .pointer none | some x => NodeAt T 0 w x v
/-- A slice of such pointers. -/
def ArgsAt (T : TypeId) (w : World) (l : List (Option Ex)) (v : Value) : Prop := ∃ g o cap, v = .slice (some ⟨g, o, none⟩) l.length cap ∧ g < w.heap.size ∧ ∀ j x, l[j]? = some x → ∃ u, w.cell? ⟨g, o + j, none⟩ = some u ∧ OptAt T w x u
theorem OptAt.below {T : TypeId} {w w' : World} {o : Option Ex} {v : Value} (h : OptAt T w o v) (hb : Below w.heap.size w w') : OptAt T w' o v := by
  cases o with
  | none => exact h
  | some x => exact NodeAt.below h hb
theorem ArgsAt.below {T : TypeId} {w w' : World} {l : List (Option Ex)} {v : Value} (h : ArgsAt T w l v) (hb : Below w.heap.size w w') : ArgsAt T w' l v := by
  obtain ⟨g, o, cap, hv, hg, hc⟩ := h
  refine ⟨g, o, cap, hv, Nat.lt_of_lt_of_le hg hb.size, fun j x hx => ?_⟩
  obtain ⟨u, hu, ho⟩ := hc j x hx
  exact ⟨u, (hb.cell (p := ⟨g, o + j, none⟩) hg).trans hu, ho.below hb⟩
/-- What a look at a node's cells gives. -/
theorem NodeAt.cells {T : TypeId} {B : Nat} {w : World} {x : Ex} {v : Value} (h : NodeAt T B w x v) : ∃ g k n s a b, v = .pointer (some ⟨g, 0, none⟩) ∧ g < w.heap.size ∧ w.cell? ⟨g, 0, none⟩ = some (.int .i64 k) ∧ w.cell? ⟨g, 1, none⟩ = some (.int .i64 n) ∧ w.cell? ⟨g, 2, none⟩ = some (.string s) ∧ w.cell? ⟨g, 3, none⟩ = some a ∧ w.cell? ⟨g, 4, none⟩ = some b ∧
    ((k == 2) = true ∧ x.own = [s.data.toList] ∨ (k == 2) = false ∧ x.own = []) ∧ ∃ oa ob, x.kids = [oa, ob] ∧ OptAt T w oa a ∧ OptAt T w ob b := by
  have mk : ∀ {g : Nat} {c0 c1 c2 c3 c4 : Value}, w.heap[g]? = some (.cells #[c0, c1, c2, c3, c4] T (0, 0)) → w.cell? ⟨g, 0, none⟩ = some c0 ∧ w.cell? ⟨g, 1, none⟩ = some c1 ∧ w.cell? ⟨g, 2, none⟩ = some c2 ∧ w.cell? ⟨g, 3, none⟩ = some c3 ∧ w.cell? ⟨g, 4, none⟩ = some c4 := fun h => by
    refine ⟨?_, ?_, ?_, ?_, ?_⟩ <;> simp [World.cell?, h]
  cases x with
  | num n =>
    obtain ⟨g, _, hv, hh⟩ := h
    obtain ⟨e0, e1, e2, e3, e4⟩ := mk hh
    exact ⟨g, _, _, _, _, _, hv, lt_of_block hh, e0, e1, e2, e3, e4, .inr ⟨rfl, rfl⟩, none, none, rfl, rfl, rfl⟩
  | sym s =>
    obtain ⟨g, _, hv, hh⟩ := h
    obtain ⟨e0, e1, e2, e3, e4⟩ := mk hh
    exact ⟨g, _, _, _, _, _, hv, lt_of_block hh, e0, e1, e2, e3, e4, .inl ⟨rfl, rfl⟩, none, none, rfl, rfl, rfl⟩
  | here =>
    obtain ⟨g, _, hv, hh⟩ := h
    obtain ⟨e0, e1, e2, e3, e4⟩ := mk hh
    exact ⟨g, _, _, _, _, _, hv, lt_of_block hh, e0, e1, e2, e3, e4, .inr ⟨rfl, rfl⟩, none, none, rfl, rfl, rfl⟩
  | un op a =>
    obtain ⟨g, va, _, hv, hh, ha⟩ := h
    obtain ⟨e0, e1, e2, e3, e4⟩ := mk hh
    exact ⟨g, _, _, _, _, _, hv, lt_of_block hh, e0, e1, e2, e3, e4, .inr ⟨rfl, rfl⟩, some a, none, rfl, ha.mono (Nat.zero_le _), rfl⟩
  | bin op a b =>
    obtain ⟨g, va, vb, _, hv, hh, ha, hb⟩ := h
    obtain ⟨e0, e1, e2, e3, e4⟩ := mk hh
    exact ⟨g, _, _, _, _, _, hv, lt_of_block hh, e0, e1, e2, e3, e4, .inr ⟨rfl, rfl⟩, some a, some b, rfl, ha.mono (Nat.zero_le _), hb.mono (Nat.zero_le _)⟩
end Go.Proofs.YtnjpfhihbjihbaaGreatDoor

/- What Tokens hands back. -/
namespace Go.Proofs.YtnjpfhihbjihbaaGreatDoor
open Go.RowKit Go.Sort

/-- What Tokens hands back. -/
def TokRes (x : Except Int (List Tok)) (w : World) (e : Ending) (w' : World) : Prop :=
  match x with
  | .ok l => ∃ v, e = .returned (.tuple #[v, .int .i64 0]) ∧ Row w' v l.length (tokc l) ∧ Below w.heap.size w w'
  | .error c => e = .returned (.tuple #[.slice none 0 0, .int .i64 c]) ∧ Below w.heap.size w w'
theorem tokc_one (l : List Tok) (k : Int) (t : ByteArray) (n : Int) (a : Int) : tokc l ++ [.int .i64 k, .string t, .int .i64 n, .int .i64 a] = tokc (l ++ [⟨k, t, n, a⟩]) := by rw [tokc_append]; rfl

theorem alloc_at' (w : World) (o : Obj) : (w.alloc o).heap[w.heap.size]? = some o := by show (w.heap.push o)[w.heap.size]? = _; simp
end Go.Proofs.YtnjpfhihbjihbaaGreatDoor

/- append onto a row of one's own, the source a row that may be nil, as a step of a region that draws its order. -/
namespace Go.Proofs.YtnjpfhihbjihbaaGreatDoor
open Go.RowKit Go.Sort

/-- A slice value that is nil where it holds nothing. -/
def SrcAt (w : World) (v : Value) (m : Nat) (news : List Value) : Prop := (m = 0 ∧ v = .slice none 0 0) ∨ ∃ ad c, v = .slice (some ad) m c ∧ ∀ j u, news[j]? = some u → w.cell? (ad.add j) = some u
theorem step_append_src {P : Program} {w : World} {ops : Array Oper} {o : Oper} {a : Act} {K : Act → World → Prop} {Q : Exit → Act → World → Prop} {E : Prop} (hgd : o.guard = none) (s x : Operand) (t : TypeId)
    (ho : o.op = .call { callee := .builtin .append, args := #[s, x], argTypes := #[t, t] })
    (base : Nat) (e : TypeId) (i : TypeInfo) (z : Value) (size bytes : Nat) (ht : P.underlying t = some (.slice e)) (hi : P.info? e = some i) (hz : i.zero = some z)
    (hsize : i.size = size) (hby : i.bytes = bytes) (hzs : z.cells.size = size) (hsz : 0 < size)
    (v : Value) (n : Nat) (xs : List Value) (hs : a.eval s = v) (hown : w.ownsRow base e size v n xs)
    (v2 : Value) (m : Nat) (news : List Value) (hx : a.eval x = v2) (hsrc : SrcAt w v2 m news) (hl : news.length = m * size) (h1 : ∀ u ∈ news, u.oneCell' = true)
    (h63 : n + m ≤ maxLen) (hbytes : (n + m) * bytes ≤ 140737488355328) (hbase : base ≤ w.heap.size)
    (h : ∀ v' w', w'.ownsRow base e size v' (n + m) (xs ++ news) → w.grownBy w' v.ownBlock → (v' = .slice none 0 0 ↔ v = .slice none 0 0 ∧ m = 0) → K (a.put o.dst v') w') :
    if Region.wanted o (yielded ops a.tmps) = true then Oper.wp P o a w K Q else E := by
  have hw : Region.wanted o (yielded ops a.tmps) = true := by simp [Region.wanted, hgd]
  rw [if_pos hw]
  rcases hsrc with ⟨rfl, rfl⟩ | ⟨ad, c, rfl, hc⟩
  · have hn : news = [] := List.eq_nil_of_length_eq_zero (by simpa using hl)
    subst hn
    have hrun := run_append_owned_none (P := P) (w := w) base t o.type e i size ht hi v n xs hown
    unfold Oper.wp
    simp [execOp, ho, resolve, invoke, builtin, hs, hx, hrun, Result.andThen]
    exact h v w (by simpa using hown) (World.grownBy.refl w _) (by simp)
  · exact wp_append_own w s x t ho base e i z size bytes ht hi hz hsize hby hzs hsz v n xs hs hown ad m c news hx hl hc h1 h63 hbytes hbase h
end Go.Proofs.YtnjpfhihbjihbaaGreatDoor
