/- Joined texts: Uniq, Cells, SortC, NamesE, Five, SameR. -/
import Derived.Test.YtpkbonfbehhbdaaGreatDoorE01
import Derived.Test.YtpkbonfbehhbdaaGreatDoorE03
import Derived.Test.YtpkbonfbehhbdaaGreatDoorE04
import Derived.Test.YtpkbonfbehhbdaaGreatDoorE05
import Derived.Lib.SlicesCompact
import Derived.Sort.KeysCollected
import Derived.Sort.OwnSorted
import Derived.StillTailTactics
/- Lists that are sorted and freed of doubles: they depend on the members alone. No program in sight. -/
namespace Go.Proofs.YtpkbonfbehhbdaaGreatDoor
open Go.RowKit Go.Sort

theorem nil_or_snoc {α : Type} (l : List α) : l = [] ∨ ∃ ys y, l = ys ++ [y] := by
  rcases List.eq_nil_or_concat l with h | ⟨ys, y, h⟩
  · exact .inl h
  · exact .inr ⟨ys, y, by rw [h, List.concat_eq_append]⟩
theorem get_snoc (zs : List (List UInt8)) (x : List UInt8) (j : Nat) (hj : j < zs.length) : (zs ++ [x]).toArray[j]! = zs.toArray[j]! := by
  simp [List.getElem?_append_left hj]
theorem get_snoc_last (zs : List (List UInt8)) (x : List UInt8) : (zs ++ [x]).toArray[zs.length]! = x := by simp

theorem compact_snoc (zs : List (List UInt8)) (x : List UInt8) : Lib.compact (zs ++ [x]) = Lib.compact zs ++ (if zs.getLast? = some x then [] else [x]) := by
  unfold Lib.compact
  rw [List.length_append, show [x].length = 1 from rfl, Lib.compactUpTo_succ, get_snoc_last]
  have hk : ∀ j, j < zs.length → Lib.keeps (zs ++ [x]).toArray j = Lib.keeps zs.toArray j := fun j hj => by
    unfold Lib.keeps
    rw [get_snoc zs x j hj, get_snoc zs x (j - 1) (by omega)]
  have h1 : Lib.compactUpTo (zs ++ [x]).toArray zs.length = Lib.compactUpTo zs.toArray zs.length := by
    unfold Lib.compactUpTo
    rw [List.filter_congr (fun j hj => hk j (List.mem_range.1 hj))]
    apply List.map_congr_left
    intro j hj
    exact get_snoc zs x j (List.mem_range.1 (List.mem_filter.1 hj).1)
  rw [h1]
  congr 1
  rcases nil_or_snoc zs with rfl | ⟨ys, y, rfl⟩
  · simp [Lib.keeps]
  · have hl : (ys ++ [y]).length = ys.length + 1 := by simp
    unfold Lib.keeps
    rw [get_snoc_last, hl, show ys.length + 1 - 1 = ys.length by omega, get_snoc (ys ++ [y]) x ys.length (by omega), get_snoc_last]
    simp only [List.getLast?_append, List.getLast?_singleton, Option.some_or, Option.some.injEq]
    by_cases h : y = x
    · subst h; simp
    · simp [h, Ne.symm h]

theorem mem_compact (zs : List (List UInt8)) (x : List UInt8) : x ∈ Lib.compact zs ↔ x ∈ zs := by
  rcases nil_or_snoc zs with rfl | ⟨ys, y, rfl⟩
  · simp [Lib.compact, Lib.compactUpTo]
  · have ih := mem_compact ys x
    rw [compact_snoc, List.mem_append, List.mem_append, ih]
    split
    · rename_i h
      have := List.mem_of_getLast? h
      constructor
      · rintro (h | h)
        · exact .inl h
        · cases h
      · rintro (h | h)
        · exact .inl h
        · rw [List.mem_singleton] at h; subst h; exact .inl this
    · rfl
  termination_by zs.length
  decreasing_by simp_all

theorem pair_compact (zs : List (List UInt8)) (h : zs.Pairwise (· ≤ ·)) : (Lib.compact zs).Pairwise (· < ·) := by
  rcases nil_or_snoc zs with rfl | ⟨ys, y, rfl⟩
  · simp [Lib.compact, Lib.compactUpTo]
  · rw [List.pairwise_append] at h
    obtain ⟨h1, _, h2⟩ := h
    have ih := pair_compact ys h1
    rw [compact_snoc]
    split
    · simpa using ih
    · rename_i hne
      rw [List.pairwise_append]
      refine ⟨ih, List.pairwise_singleton _ _, fun a ha b hb => ?_⟩
      rw [List.mem_singleton] at hb; subst hb
      have hay : a ≤ b := h2 a ((mem_compact ys a).1 ha) b (List.mem_singleton.2 rfl)
      rcases nil_or_snoc ys with rfl | ⟨us, u, rfl⟩
      · simp [Lib.compact, Lib.compactUpTo] at ha
      · have hub : u ≤ b := h2 u (by simp) b (List.mem_singleton.2 rfl)
        have hune : u ≠ b := by intro e; apply hne; simp [e]
        have hau : a ≤ u := by
          have hm := (mem_compact (us ++ [u]) a).1 ha
          rw [List.mem_append] at hm
          rcases hm with hm | hm
          · rw [List.pairwise_append] at h1
            exact h1.2.2 a hm u (List.mem_singleton.2 rfl)
          · rw [List.mem_singleton] at hm; subst hm; exact List.le_refl _
        have hub2 : u < b := by
          rcases Decidable.em (u < b) with h | h
          · exact h
          · exact absurd (List.le_antisymm hub (List.not_lt.1 h)) hune
        exact List.lt_of_le_of_lt hau hub2
  termination_by zs.length
  decreasing_by simp_all

/-- Sorted, each once. -/
def uniq (l : List (List UInt8)) : List (List UInt8) := Lib.compact (l.mergeSort fun x y => decide (x ≤ y))
theorem mem_uniq (l : List (List UInt8)) (x : List UInt8) : x ∈ uniq l ↔ x ∈ l := by
  unfold uniq
  rw [mem_compact, List.mem_mergeSort]
theorem pair_uniq (l : List (List UInt8)) : (uniq l).Pairwise (· < ·) := by
  unfold uniq
  apply pair_compact
  have := List.pairwise_mergeSort (le := fun x y : List UInt8 => decide (x ≤ y)) (fun a b c h1 h2 => by simp only [decide_eq_true_eq] at *; exact List.le_trans h1 h2) (fun a b => by simp only [Bool.or_eq_true, decide_eq_true_eq]; exact List.le_total a b) l
  exact this.imp (fun h => by simpa using h)

/-- Sorted lists without doubles that have the same members are equal. -/
theorem pair_ext {l m : List (List UInt8)} (h1 : l.Pairwise (· < ·)) (h2 : m.Pairwise (· < ·)) (h : ∀ x, x ∈ l ↔ x ∈ m) : l = m := by
  have hp : l.Perm m := (List.perm_ext_iff_of_nodup (h1.imp fun {a b} hab e => by subst e; exact List.lt_irrefl _ hab) (h2.imp fun {a b} hab e => by subst e; exact List.lt_irrefl _ hab)).2 h
  refine List.Perm.eq_of_pairwise (le := fun a b => a < b) (fun a b _ _ hab hba => ?_) h1 h2 hp
  exact absurd (List.lt_trans hab hba) (List.lt_irrefl _)
theorem uniq_ext {l m : List (List UInt8)} (h : ∀ x, x ∈ l ↔ x ∈ m) : uniq l = uniq m :=
  pair_ext (pair_uniq l) (pair_uniq m) fun x => by rw [mem_uniq, mem_uniq, h]
theorem uniq_append (l m : List (List UInt8)) : uniq (l ++ uniq m) = uniq (l ++ m) :=
  uniq_ext fun x => by simp [mem_uniq]
theorem uniq_append2 (l m k : List (List UInt8)) : uniq (l ++ (uniq m ++ uniq k)) = uniq (l ++ (m ++ k)) :=
  uniq_ext fun x => by simp [mem_uniq]
theorem uniq_nil : uniq [] = [] := by
  have h : ∀ x, x ∉ uniq [] := fun x hx => by simpa using (mem_uniq [] x).1 hx
  exact List.eq_nil_iff_forall_not_mem.2 h
end Go.Proofs.YtpkbonfbehhbdaaGreatDoor

/- Rows of strings. -/
namespace Go.Proofs.YtpkbonfbehhbdaaGreatDoor
open Go.RowKit Go.Sort

theorem Tryz.infoString : (Tryz.prog.info? 9).map (fun i => (i.zero, i.size, i.bytes)) = some (some (.string ⟨#[]⟩), 1, 16) := by kernel_rfl

theorem owns_below' {w w' : World} {base : Nat} {e : TypeId} {size : Nat} {v : Value} {n : Nat} {xs : List Value} (h : w.ownsRow base e size v n xs) (hb : Below w.heap.size w w') : w'.ownsRow base e size v n xs := by
  obtain ⟨h1, h2⟩ := h
  refine ⟨h1, ?_⟩
  rcases h2 with h2 | ⟨g, cap, cur, hv, hg, hh, r⟩
  · exact Or.inl h2
  · exact Or.inr ⟨g, cap, cur, hv, hg, by rw [hb.block g (lt_of_block hh)]; exact hh, r⟩

/-- The cells of strings. -/
def strc (l : List ByteArray) : List Value := l.map Value.string
theorem strc_len (l : List ByteArray) : (strc l).length = l.length := by simp [strc]

theorem strc_append (l m : List ByteArray) : strc (l ++ m) = strc l ++ strc m := by simp [strc]
end Go.Proofs.YtpkbonfbehhbdaaGreatDoor

/- The library's sort and compaction of a row of strings of one's own. -/
namespace Go.Proofs.YtpkbonfbehhbdaaGreatDoor
open Go.RowKit Go.Sort

theorem compactUpTo_len (d : Array (List UInt8)) : ∀ n, (Lib.compactUpTo d n).length ≤ n := fun n => by
  unfold Lib.compactUpTo
  rw [List.length_map]
  exact Nat.le_trans (List.length_filter_le _ _) (by simp)
theorem compact_len (l : List (List UInt8)) : (Lib.compact l).length ≤ l.length := compactUpTo_len _ _
theorem uniq_len (l : List (List UInt8)) : (uniq l).length ≤ l.length := by
  unfold uniq
  exact Nat.le_trans (compact_len _) (by simp)

theorem sort_any (base : Nat) (v : Value) (L : List (List UInt8)) (w : World) (hown : w.ownsRow base 9 1 v L.length (L.map Proofs.encStr)) (hnil : L = [] → v = .slice none 0 0) (hlen : L.length ≤ 1000000) (hb : base ≤ w.heap.size) :
    Calls Tryz.prog 28 #[v] w fun e w' => e = .returned (.tuple #[]) ∧ w'.ownsRow base 9 1 v L.length ((L.mergeSort fun x y => decide (x ≤ y)).map Proofs.encStr) ∧ Below base w w' := by
  rcases hL : L with _ | ⟨x, l⟩
  · rw [hnil hL]
    refine (Tryz.slices_Sort_string_none none 0 w).mono ?_
    rintro e w' ⟨rfl, rfl⟩
    exact ⟨rfl, by rw [List.mergeSort_nil]; exact World.ownsRow_nil _ _ _ _, Below.refl _ _⟩
  · rw [← hL]
    have hpos : 0 < L.length := by rw [hL]; simp
    clear hL
    rcases hown.2 with ⟨_, h0⟩ | ⟨g, cap, cur, rfl, hg, hbk, hn, hcap, hcur, htk⟩
    · omega
    have hgw : g < w.heap.size := lt_of_block hbk
    refine (Tryz.slices_Sort_string g 0 cap L w (holds_of_block hbk (by simpa using htk)) hgw (by omega)).mono ?_
    rintro e w2 ⟨rfl, n, os, hw2⟩
    refine ⟨rfl, ?_, ?_⟩
    · rw [hw2]
      exact ownsRow_sorted (n := n) (os := os) (ss := L) (ts := L.mergeSort fun x y => decide (x ≤ y)) (by simp) hg hbk hn hcap hcur
    · exact (Below.refl base w).grown (by rw [hw2]; exact grownBy_sorted _) hb (by intro q hq; cases hq; exact hg)

theorem compact_any (base : Nat) (v : Value) (L : List (List UInt8)) (w : World) (hown : w.ownsRow base 9 1 v L.length (L.map Proofs.encStr)) (hnil : L = [] → v = .slice none 0 0) (hlen : L.length ≤ 1000000) (hb : base ≤ w.heap.size) :
    Calls Tryz.prog 29 #[v] w fun e w' => ∃ v', e = .returned v' ∧ Row w' v' (Lib.compact L).length ((Lib.compact L).map Proofs.encStr) ∧ (Lib.compact L = [] → v' = .slice none 0 0) ∧ Below base w w' := by
  rcases hL : L with _ | ⟨x, l⟩
  · rw [hnil hL]
    refine (Tryz.slices_Compact_string_empty none 0 w).mono ?_
    rintro e w' ⟨rfl, rfl⟩
    exact ⟨_, rfl, Row.nil _, fun _ => rfl, Below.refl _ _⟩
  · rw [← hL]
    have hpos : 0 < L.length := by rw [hL]; simp
    have hne : Lib.compact L ≠ [] := fun h => by
      have : x ∈ Lib.compact L := (mem_compact L x).2 (by rw [hL]; simp)
      rw [h] at this; cases this
    clear hL
    rcases hown.2 with ⟨_, h0⟩ | ⟨g, cap, cur, rfl, hg, hbk, hn, hcap, hcur, htk⟩
    · omega
    refine (Tryz.slices_Compact_string g 0 cap L w (holds_of_block hbk (by simpa using htk)) (by omega) hn).mono ?_
    rintro e w3 ⟨rfl, q, hw3⟩
    have hcl := compact_len L
    have hw3' : w3 = grow (putRow Proofs.encStr (Sort.ahead w q) g 0 (Lib.compact L ++ List.replicate (L.length - (Lib.compact L).length) []).toArray) #[] := by rw [hw3, grow_empty]
    have hown3 : w3.ownsRow base 9 1 (.slice (some ⟨g, 0, none⟩) L.length cap) L.length ((Lib.compact L ++ List.replicate (L.length - (Lib.compact L).length) []).map Proofs.encStr) := by
      rw [hw3']
      exact ownsRow_sorted (n := q) (os := #[]) (ss := L) (ts := Lib.compact L ++ List.replicate (L.length - (Lib.compact L).length) []) (by rw [List.length_append, List.length_replicate]; omega) hg hbk hn hcap hcur
    refine ⟨_, rfl, ⟨_, _, rfl, by omega, fun _ => ?_⟩, fun h => absurd h hne, ?_⟩
    · obtain ⟨a4, c4, hv4, hc4, hr4⟩ := Row.of_owns hown3
      cases hv4
      obtain ⟨g5, o5, he5, hg5, hcs⟩ := hr4 (by
        rw [List.map_append]
        intro h
        have := List.append_eq_nil_iff.1 h
        exact hne (List.map_eq_nil_iff.1 this.1))
      cases he5
      refine ⟨g, 0, rfl, hg5, fun j hj => ?_⟩
      rw [List.length_map] at hj
      rw [hcs j (by rw [List.length_map, List.length_append]; omega), List.map_append, List.getElem?_append_left (by rw [List.length_map]; exact hj)]
    · exact (Below.refl base w).grown (by rw [hw3']; exact grownBy_sorted _) hb (by intro q hq; cases hq; exact hg)
end Go.Proofs.YtpkbonfbehhbdaaGreatDoor

/- expr.Names. -/
namespace Go.Proofs.YtpkbonfbehhbdaaGreatDoor
open Go.RowKit Go.Sort

/-- How many nodes an expression has. -/
def Ex.nodes : Ex → Nat
  | .num _ => 1
  | .sym _ => 1
  | .here => 1
  | .un _ a => 1 + a.nodes
  | .bin _ a b => 1 + a.nodes + b.nodes
def oNodes : Option Ex → Nat | none => 0 | some x => x.nodes
def lNodes : List (Option Ex) → Nat | [] => 0 | o :: l => oNodes o + lNodes l
/-- The parts of a node. -/
def Ex.kids : Ex → List (Option Ex)
  | .un _ a => [some a, none]
  | .bin _ a b => [some a, some b]
  | _ => [none, none]
theorem kids_nodes (x : Ex) : lNodes x.kids + 1 ≤ x.nodes := by cases x <;> simp [Ex.kids, lNodes, oNodes, Ex.nodes] <;> omega
/-- The symbols of some expressions. -/
def oSyms : Option Ex → List (List UInt8) | none => [] | some x => x.syms.map (·.data.toList)
def lSyms (l : List (Option Ex)) : List (List UInt8) := l.flatMap oSyms
def Ex.own : Ex → List (List UInt8)
  | .sym s => [s.data.toList]
  | _ => []
theorem own_kids (x : Ex) : oSyms (some x) = x.own ++ lSyms x.kids := by
  cases x <;> simp [oSyms, lSyms, Ex.own, Ex.kids, Ex.syms]
theorem syms_len : ∀ (x : Ex), x.syms.length ≤ x.nodes
  | .num _ => by simp [Ex.syms]
  | .sym _ => by simp [Ex.syms, Ex.nodes]
  | .here => by simp [Ex.syms]
  | .un _ a => by have := syms_len a; simp only [Ex.syms, Ex.nodes]; omega
  | .bin _ a b => by have := syms_len a; have := syms_len b; simp only [Ex.syms, Ex.nodes, List.length_append]; omega
theorem lSyms_len : ∀ (l : List (Option Ex)), (lSyms l).length ≤ lNodes l
  | [] => by simp [lSyms]
  | o :: l => by
    have := lSyms_len l
    have h : (oSyms o).length ≤ oNodes o := by
      cases o with
      | none => simp [oSyms]
      | some x => simpa [oSyms, oNodes] using syms_len x
    unfold lSyms at *
    rw [List.flatMap_cons, List.length_append]
    unfold lNodes
    omega
/-- A pointer that is nil or leads to an expression. -/
def OptAt (T : TypeId) (w : World) (o : Option Ex) (v : Value) : Prop := match o with | none => v = .pointer none | some x => NodeAt T 0 w x v
/-- A slice of such pointers. -/
def ArgsAt (T : TypeId) (w : World) (l : List (Option Ex)) (v : Value) : Prop := ∃ g o cap, v = .slice (some ⟨g, o, none⟩) l.length cap ∧ g < w.heap.size ∧ ∀ j x, l[j]? = some x → ∃ u, w.cell? ⟨g, o + j, none⟩ = some u ∧ OptAt T w x u
theorem OptAt.below {T : TypeId} {w w' : World} {o : Option Ex} {v : Value} (h : OptAt T w o v) (hb : Below w.heap.size w w') : OptAt T w' o v := by
  cases o with
  | none => exact h
  | some x => exact NodeAt.below h hb
theorem ArgsAt.below {T : TypeId} {w w' : World} {l : List (Option Ex)} {v : Value} (h : ArgsAt T w l v) (hb : Below w.heap.size w w') : ArgsAt T w' l v := by
  obtain ⟨g, o, cap, hv, hg, hc⟩ := h
  refine ⟨g, o, cap, hv, Nat.lt_of_lt_of_le hg hb.size, fun j x hx => ?_⟩
  obtain ⟨u, hu, ho⟩ := hc j x hx
  exact ⟨u, (hb.cell (p := ⟨g, o + j, none⟩) hg).trans hu, ho.below hb⟩
/-- What a look at a node's cells gives. -/
theorem NodeAt.cells {T : TypeId} {B : Nat} {w : World} {x : Ex} {v : Value} (h : NodeAt T B w x v) : ∃ g k n s a b, v = .pointer (some ⟨g, 0, none⟩) ∧ g < w.heap.size ∧ w.cell? ⟨g, 0, none⟩ = some (.int .i64 k) ∧ w.cell? ⟨g, 1, none⟩ = some (.int .i64 n) ∧ w.cell? ⟨g, 2, none⟩ = some (.string s) ∧ w.cell? ⟨g, 3, none⟩ = some a ∧ w.cell? ⟨g, 4, none⟩ = some b ∧
    ((k == 2) = true ∧ x.own = [s.data.toList] ∨ (k == 2) = false ∧ x.own = []) ∧ ∃ oa ob, x.kids = [oa, ob] ∧ OptAt T w oa a ∧ OptAt T w ob b := by
  have mk : ∀ {g : Nat} {c0 c1 c2 c3 c4 : Value}, w.heap[g]? = some (.cells #[c0, c1, c2, c3, c4] T (0, 0)) → w.cell? ⟨g, 0, none⟩ = some c0 ∧ w.cell? ⟨g, 1, none⟩ = some c1 ∧ w.cell? ⟨g, 2, none⟩ = some c2 ∧ w.cell? ⟨g, 3, none⟩ = some c3 ∧ w.cell? ⟨g, 4, none⟩ = some c4 := fun h => by
    refine ⟨?_, ?_, ?_, ?_, ?_⟩ <;> simp [World.cell?, h]
  cases x with
  | num n =>
    obtain ⟨g, _, hv, hh⟩ := h
    obtain ⟨e0, e1, e2, e3, e4⟩ := mk hh
    exact ⟨g, _, _, _, _, _, hv, lt_of_block hh, e0, e1, e2, e3, e4, .inr ⟨rfl, rfl⟩, none, none, rfl, rfl, rfl⟩
  | sym s =>
    obtain ⟨g, _, hv, hh⟩ := h
    obtain ⟨e0, e1, e2, e3, e4⟩ := mk hh
    exact ⟨g, _, _, _, _, _, hv, lt_of_block hh, e0, e1, e2, e3, e4, .inl ⟨rfl, rfl⟩, none, none, rfl, rfl, rfl⟩
  | here =>
    obtain ⟨g, _, hv, hh⟩ := h
    obtain ⟨e0, e1, e2, e3, e4⟩ := mk hh
    exact ⟨g, _, _, _, _, _, hv, lt_of_block hh, e0, e1, e2, e3, e4, .inr ⟨rfl, rfl⟩, none, none, rfl, rfl, rfl⟩
  | un op a =>
    obtain ⟨g, va, _, hv, hh, ha⟩ := h
    obtain ⟨e0, e1, e2, e3, e4⟩ := mk hh
    exact ⟨g, _, _, _, _, _, hv, lt_of_block hh, e0, e1, e2, e3, e4, .inr ⟨rfl, rfl⟩, some a, none, rfl, ha.mono (Nat.zero_le _), rfl⟩
  | bin op a b =>
    obtain ⟨g, va, vb, _, hv, hh, ha, hb⟩ := h
    obtain ⟨e0, e1, e2, e3, e4⟩ := mk hh
    exact ⟨g, _, _, _, _, _, hv, lt_of_block hh, e0, e1, e2, e3, e4, .inr ⟨rfl, rfl⟩, some a, some b, rfl, ha.mono (Nat.zero_le _), hb.mono (Nat.zero_le _)⟩
end Go.Proofs.YtpkbonfbehhbdaaGreatDoor

/- A node's five cells; equality of expressions. -/
namespace Go.Proofs.YtpkbonfbehhbdaaGreatDoor
open Go.RowKit Go.Sort

section
variable {P : Program}
theorem run_equalIn_nil_some (w : World) (d : Nat) (t : TypeId) (p : Addr) (h : P.underlying t = some (.pointer (P.pointee t))) :
    (Op.equalIn (d + 1) t (.pointer none) (.pointer (some p))).run P w = .ok false w := by
  simp [Op.equalIn, run_underlying h]
theorem run_equal_nil_some (w : World) (t : TypeId) (p : Addr) (h : P.underlying t = some (.pointer (P.pointee t))) :
    (Op.equal t (.pointer none) (.pointer (some p))).run P w = .ok false w := run_equalIn_nil_some w 9999 t p h
@[go_sem] theorem run_eql_nil_some (w : World) (t : TypeId) (p : Addr) (h : P.underlying t = some (.pointer (P.pointee t))) :
    (binOp .eql t (.pointer none) (.pointer (some p))).run P w = .ok (.bool false) w := by
  simp only [binOp]
  simp [run_equal_nil_some w t p h]
end
def Ex.kd : Ex → Int | .num _ => 1 | .sym _ => 2 | .here => 3 | .un _ _ => 4 | .bin _ _ _ => 5
def Ex.nn : Ex → Int | .num n => n | _ => 0
def Ex.nm : Ex → ByteArray | .sym s => s | .un op _ => op | .bin op _ _ => op | _ => ⟨#[]⟩
def Ex.ka : Ex → Option Ex | .un _ a => some a | .bin _ a _ => some a | _ => none
def Ex.kb : Ex → Option Ex | .bin _ _ b => some b | _ => none
theorem Ex.five_iff (x y : Ex) : x = y ↔ x.kd = y.kd ∧ x.nn = y.nn ∧ x.nm = y.nm ∧ x.ka = y.ka ∧ x.kb = y.kb := by
  constructor
  · rintro rfl; exact ⟨rfl, rfl, rfl, rfl, rfl⟩
  · rintro ⟨h1, h2, h3, h4, h5⟩
    cases x <;> cases y <;> simp only [Ex.kd, Ex.nn, Ex.nm, Ex.ka, Ex.kb, Option.some.injEq] at * <;> first | (subst h2; rfl) | (subst h3; rfl) | rfl | (subst h3 h4; rfl) | (subst h3 h4 h5; rfl) | (exact absurd h1 (by decide))
theorem NodeAt.five {T : TypeId} {B : Nat} {w : World} {x : Ex} {v : Value} (h : NodeAt T B w x v) : ∃ g a b, v = .pointer (some ⟨g, 0, none⟩) ∧ g < w.heap.size ∧ w.cell? ⟨g, 0, none⟩ = some (.int .i64 x.kd) ∧ w.cell? ⟨g, 1, none⟩ = some (.int .i64 x.nn) ∧ w.cell? ⟨g, 2, none⟩ = some (.string x.nm) ∧ w.cell? ⟨g, 3, none⟩ = some a ∧ w.cell? ⟨g, 4, none⟩ = some b ∧ OptAt T w x.ka a ∧ OptAt T w x.kb b := by
  have mk : ∀ {g : Nat} {c0 c1 c2 c3 c4 : Value}, w.heap[g]? = some (.cells #[c0, c1, c2, c3, c4] T (0, 0)) → w.cell? ⟨g, 0, none⟩ = some c0 ∧ w.cell? ⟨g, 1, none⟩ = some c1 ∧ w.cell? ⟨g, 2, none⟩ = some c2 ∧ w.cell? ⟨g, 3, none⟩ = some c3 ∧ w.cell? ⟨g, 4, none⟩ = some c4 := fun h => by
    refine ⟨?_, ?_, ?_, ?_, ?_⟩ <;> simp [World.cell?, h]
  cases x with
  | num n =>
    obtain ⟨g, _, hv, hh⟩ := h
    obtain ⟨e0, e1, e2, e3, e4⟩ := mk hh
    exact ⟨g, _, _, hv, lt_of_block hh, e0, e1, e2, e3, e4, rfl, rfl⟩
  | sym s =>
    obtain ⟨g, _, hv, hh⟩ := h
    obtain ⟨e0, e1, e2, e3, e4⟩ := mk hh
    exact ⟨g, _, _, hv, lt_of_block hh, e0, e1, e2, e3, e4, rfl, rfl⟩
  | here =>
    obtain ⟨g, _, hv, hh⟩ := h
    obtain ⟨e0, e1, e2, e3, e4⟩ := mk hh
    exact ⟨g, _, _, hv, lt_of_block hh, e0, e1, e2, e3, e4, rfl, rfl⟩
  | un op a =>
    obtain ⟨g, va, _, hv, hh, ha⟩ := h
    obtain ⟨e0, e1, e2, e3, e4⟩ := mk hh
    exact ⟨g, _, _, hv, lt_of_block hh, e0, e1, e2, e3, e4, ha.mono (Nat.zero_le _), rfl⟩
  | bin op a b =>
    obtain ⟨g, va, vb, _, hv, hh, ha, hb⟩ := h
    obtain ⟨e0, e1, e2, e3, e4⟩ := mk hh
    exact ⟨g, _, _, hv, lt_of_block hh, e0, e1, e2, e3, e4, ha.mono (Nat.zero_le _), hb.mono (Nat.zero_le _)⟩
theorem ka_nodes (x : Ex) : oNodes x.ka + 1 ≤ x.nodes ∧ oNodes x.kb + 1 ≤ x.nodes := by cases x <;> simp [Ex.ka, Ex.kb, oNodes, Ex.nodes] <;> omega
theorem OptAt.ptr0 {T : TypeId} {w : World} {o : Option Ex} {v : Value} (h : OptAt T w o v) : ∃ p, v = .pointer p := by
  cases o with
  | none => exact ⟨none, h⟩
  | some x => obtain ⟨g, h, _⟩ := NodeAt.ptr h; exact ⟨_, h⟩
/-- Whether two expressions are equal. -/
noncomputable def sameO (a b : Option Ex) : Bool := @decide (a = b) (Classical.propDecidable _)
theorem sameO_iff (a b : Option Ex) : sameO a b = true ↔ a = b := by unfold sameO; exact @decide_eq_true_iff _ (Classical.propDecidable _)
theorem sameO_true {a b : Option Ex} (h : a = b) : sameO a b = true := (sameO_iff a b).2 h
theorem sameO_false {a b : Option Ex} (h : a ≠ b) : sameO a b = false := by
  rcases hs : sameO a b with _ | _
  · rfl
  · exact absurd ((sameO_iff a b).1 hs) h
end Go.Proofs.YtpkbonfbehhbdaaGreatDoor

/- breadboardref17.Same. (Written by wip/gen_same.py.) -/
namespace Go.Proofs.YtpkbonfbehhbdaaGreatDoor
open Go.RowKit Go.Sort

set_option maxHeartbeats 4000000 in
set_option maxRecDepth 100000 in
theorem rsame_any : ∀ (n : Nat) (a b : Option Ex), oNodes a ≤ n → ∀ (va vb : Value) (w : World), OptAt 78 w a va → OptAt 78 w b vb →
    Calls Tryz.prog 14 #[va, vb] w fun e w' => e = .returned (.bool (sameO a b)) ∧ Below w.heap.size w w'
  | n, none, none, _, va, vb, w, ha, hb => by
    obtain rfl : va = .pointer none := ha
    obtain rfl : vb = .pointer none := hb
    rw [sameO_true rfl]
    go_enter Tryz.func14, Tryz.ntmps14
    go_wp2_with fail
    go_ret
    exact ⟨rfl, by (repeat (first | exact Below.refl _ _ | refine Below.drew ?_ | (refine below_gw' ?_ (by first | omega | (simp [go_sem]; done) | (simp [go_sem]; omega)) _) | (refine Below.alloc ?_ (by first | omega | (simp [go_sem]; done) | (simp [go_sem]; omega)) _) | (refine Below.setCell ?_ (by first | omega | (simp [go_sem]; done) | (simp [go_sem]; omega)) _)))⟩
  | n, none, some y, _, va, vb, w, ha, hb => by
    obtain rfl : va = .pointer none := ha
    obtain ⟨g, rfl, _⟩ := NodeAt.ptr hb
    rw [sameO_false (by simp)]
    clear hb
    go_enter Tryz.func14, Tryz.ntmps14
    go_wp2_with fail
    go_ret
    exact ⟨rfl, by (repeat (first | exact Below.refl _ _ | refine Below.drew ?_ | (refine below_gw' ?_ (by first | omega | (simp [go_sem]; done) | (simp [go_sem]; omega)) _) | (refine Below.alloc ?_ (by first | omega | (simp [go_sem]; done) | (simp [go_sem]; omega)) _) | (refine Below.setCell ?_ (by first | omega | (simp [go_sem]; done) | (simp [go_sem]; omega)) _)))⟩
  | n, some x, none, _, va, vb, w, ha, hb => by
    obtain rfl : vb = .pointer none := hb
    obtain ⟨g, rfl, _⟩ := NodeAt.ptr ha
    rw [sameO_false (by simp)]
    clear ha
    go_enter Tryz.func14, Tryz.ntmps14
    go_wp2_with fail
    go_ret
    exact ⟨rfl, by (repeat (first | exact Below.refl _ _ | refine Below.drew ?_ | (refine below_gw' ?_ (by first | omega | (simp [go_sem]; done) | (simp [go_sem]; omega)) _) | (refine Below.alloc ?_ (by first | omega | (simp [go_sem]; done) | (simp [go_sem]; omega)) _) | (refine Below.setCell ?_ (by first | omega | (simp [go_sem]; done) | (simp [go_sem]; omega)) _)))⟩
  | n, some x, some y, hn, va, vb, w, ha, hb => by
    obtain ⟨g, a3, a4, rfl, hg, c0, c1, c2, c3, c4, ka, kb⟩ := NodeAt.five ha
    obtain ⟨h, b3, b4, rfl, hh, d0, d1, d2, d3, d4, la, lb⟩ := NodeAt.five hb
    have hkn := ka_nodes x
    have hn' : x.nodes ≤ n := hn
    have n1 : 0 < n := by omega
    have ihA : ∀ w', Below w.heap.size w w' → Calls Tryz.prog 14 #[a3, b3] w' fun e w'' => e = .returned (.bool (sameO x.ka y.ka)) ∧ Below w'.heap.size w' w'' := fun w' hb' =>
      rsame_any (n - 1) x.ka y.ka (by omega) a3 b3 w' (ka.below hb') (la.below hb')
    have ihB : ∀ w', Below w.heap.size w w' → Calls Tryz.prog 14 #[a4, b4] w' fun e w'' => e = .returned (.bool (sameO x.kb y.kb)) ∧ Below w'.heap.size w' w'' := fun w' hb' =>
      rsame_any (n - 1) x.kb y.kb (by omega) a4 b4 w' (kb.below hb') (lb.below hb')
    obtain ⟨q3, rfl⟩ := ka.ptr0
    obtain ⟨q4, rfl⟩ := kb.ptr0
    obtain ⟨r3, rfl⟩ := la.ptr0
    obtain ⟨r4, rfl⟩ := lb.ptr0
    have hiff : some x = some y ↔ x.kd = y.kd ∧ x.nn = y.nn ∧ x.nm = y.nm ∧ x.ka = y.ka ∧ x.kb = y.kb := by rw [Option.some.injEq]; exact Ex.five_iff x y
    have hA := sameO_iff x.ka y.ka
    have hB := sameO_iff x.kb y.kb
    obtain ⟨R, hR⟩ : ∃ R, sameO (some x) (some y) = R := ⟨_, rfl⟩
    have hRR := sameO_iff (some x) (some y)
    rw [hR] at hRR ⊢
    rw [hiff] at hRR
    clear hR hiff ha hb ka kb la lb hkn hn hn'
    generalize x.kd = k at *
    generalize y.kd = k' at *
    generalize x.nn = m at *
    generalize y.nn = m' at *
    generalize x.nm = s at *
    generalize y.nm = s' at *
    generalize sameO x.ka y.ka = A at *
    generalize sameO x.kb y.kb = B at *
    rw [← hA, ← hB] at hRR
    clear hA hB
    have HA := Lib.hid ihA; clear ihA
    have HB := Lib.hid ihB; clear ihB n1
    by_cases e1 : k = k'
    · subst e1
      by_cases e2 : m = m'
      · subst e2
        by_cases e3 : s = s'
        · subst e3
          cases A with
          | true =>
            obtain rfl : R = B := by cases R <;> cases B <;> simp_all
            clear hRR
            have t3 : (s.toList == s.toList) = true := by simp
            go_enter Tryz.func14, Tryz.ntmps14
            go_wp2_with fail
            refine wp_region_gw (by kernel_rfl) (by kernel_rfl) ?_
            repeat (go_big_quiet_step (first | (with_reducible (exact gw_quiet (HA.out _ (by (repeat (first | exact Below.refl _ _ | refine Below.drew ?_ | (refine below_gw' ?_ (by first | omega | (simp [go_sem]; done) | (simp [go_sem]; omega)) _) | (refine Below.alloc ?_ (by first | omega | (simp [go_sem]; done) | (simp [go_sem]; omega)) _) | (refine Below.setCell ?_ (by first | omega | (simp [go_sem]; done) | (simp [go_sem]; omega)) _))))))) | (with_reducible (exact gw_quiet (HB.out _ (by (repeat (first | exact Below.refl _ _ | refine Below.drew ?_ | (refine below_gw' ?_ (by first | omega | (simp [go_sem]; done) | (simp [go_sem]; omega)) _) | (refine Below.alloc ?_ (by first | omega | (simp [go_sem]; done) | (simp [go_sem]; omega)) _) | (refine Below.setCell ?_ (by first | omega | (simp [go_sem]; done) | (simp [go_sem]; omega)) _)))))))))
            refine wpQuiet_nil ?_
            rintro _ ⟨p1, rfl⟩
            go_wp2_with fail
            go_ret
            exact ⟨rfl, by (repeat (first | exact Below.refl _ _ | refine Below.drew ?_ | (refine below_gw' ?_ (by first | omega | (simp [go_sem]; done) | (simp [go_sem]; omega)) _) | (refine Below.alloc ?_ (by first | omega | (simp [go_sem]; done) | (simp [go_sem]; omega)) _) | (refine Below.setCell ?_ (by first | omega | (simp [go_sem]; done) | (simp [go_sem]; omega)) _)))⟩

          | false =>
            obtain rfl : R = false := by cases R <;> simp_all
            clear hRR
            go_enter Tryz.func14, Tryz.ntmps14
            go_wp2_with fail
            refine wp_region_gw (by kernel_rfl) (by kernel_rfl) ?_
            repeat (go_big_quiet_step (first | (with_reducible (exact gw_quiet (HA.out _ (by (repeat (first | exact Below.refl _ _ | refine Below.drew ?_ | (refine below_gw' ?_ (by first | omega | (simp [go_sem]; done) | (simp [go_sem]; omega)) _) | (refine Below.alloc ?_ (by first | omega | (simp [go_sem]; done) | (simp [go_sem]; omega)) _) | (refine Below.setCell ?_ (by first | omega | (simp [go_sem]; done) | (simp [go_sem]; omega)) _))))))) | (with_reducible (exact gw_quiet (HB.out _ (by (repeat (first | exact Below.refl _ _ | refine Below.drew ?_ | (refine below_gw' ?_ (by first | omega | (simp [go_sem]; done) | (simp [go_sem]; omega)) _) | (refine Below.alloc ?_ (by first | omega | (simp [go_sem]; done) | (simp [go_sem]; omega)) _) | (refine Below.setCell ?_ (by first | omega | (simp [go_sem]; done) | (simp [go_sem]; omega)) _)))))))))
            refine wpQuiet_nil ?_
            rintro _ ⟨p1, rfl⟩
            go_wp2_with fail
            go_ret
            exact ⟨rfl, by (repeat (first | exact Below.refl _ _ | refine Below.drew ?_ | (refine below_gw' ?_ (by first | omega | (simp [go_sem]; done) | (simp [go_sem]; omega)) _) | (refine Below.alloc ?_ (by first | omega | (simp [go_sem]; done) | (simp [go_sem]; omega)) _) | (refine Below.setCell ?_ (by first | omega | (simp [go_sem]; done) | (simp [go_sem]; omega)) _)))⟩

        · obtain rfl : R = false := by cases R <;> simp_all
          have t3 : (s.toList == s'.toList) = false := by
            rw [beq_eq_false_iff_ne]
            intro h
            apply e3
            rw [ByteArray.toList_eq, ByteArray.toList_eq] at h
            exact ByteArray.ext (Array.ext' h)
          clear hRR e3
          go_enter Tryz.func14, Tryz.ntmps14
          go_wp2_with fail
          refine wp_region_gw (by kernel_rfl) (by kernel_rfl) ?_
          repeat (go_big_quiet_step (first | (with_reducible (exact gw_quiet (HA.out _ (by (repeat (first | exact Below.refl _ _ | refine Below.drew ?_ | (refine below_gw' ?_ (by first | omega | (simp [go_sem]; done) | (simp [go_sem]; omega)) _) | (refine Below.alloc ?_ (by first | omega | (simp [go_sem]; done) | (simp [go_sem]; omega)) _) | (refine Below.setCell ?_ (by first | omega | (simp [go_sem]; done) | (simp [go_sem]; omega)) _))))))) | (with_reducible (exact gw_quiet (HB.out _ (by (repeat (first | exact Below.refl _ _ | refine Below.drew ?_ | (refine below_gw' ?_ (by first | omega | (simp [go_sem]; done) | (simp [go_sem]; omega)) _) | (refine Below.alloc ?_ (by first | omega | (simp [go_sem]; done) | (simp [go_sem]; omega)) _) | (refine Below.setCell ?_ (by first | omega | (simp [go_sem]; done) | (simp [go_sem]; omega)) _)))))))))
          refine wpQuiet_nil ?_
          rintro _ ⟨p1, rfl⟩
          go_wp2_with fail
          go_ret
          exact ⟨rfl, by (repeat (first | exact Below.refl _ _ | refine Below.drew ?_ | (refine below_gw' ?_ (by first | omega | (simp [go_sem]; done) | (simp [go_sem]; omega)) _) | (refine Below.alloc ?_ (by first | omega | (simp [go_sem]; done) | (simp [go_sem]; omega)) _) | (refine Below.setCell ?_ (by first | omega | (simp [go_sem]; done) | (simp [go_sem]; omega)) _)))⟩

      · obtain rfl : R = false := by cases R <;> simp_all
        have t2 : (m == m') = false := by simpa using e2
        clear hRR e2
        go_enter Tryz.func14, Tryz.ntmps14
        go_wp2_with fail
        refine wp_region_gw (by kernel_rfl) (by kernel_rfl) ?_
        repeat (go_big_quiet_step (first | (with_reducible (exact gw_quiet (HA.out _ (by (repeat (first | exact Below.refl _ _ | refine Below.drew ?_ | (refine below_gw' ?_ (by first | omega | (simp [go_sem]; done) | (simp [go_sem]; omega)) _) | (refine Below.alloc ?_ (by first | omega | (simp [go_sem]; done) | (simp [go_sem]; omega)) _) | (refine Below.setCell ?_ (by first | omega | (simp [go_sem]; done) | (simp [go_sem]; omega)) _))))))) | (with_reducible (exact gw_quiet (HB.out _ (by (repeat (first | exact Below.refl _ _ | refine Below.drew ?_ | (refine below_gw' ?_ (by first | omega | (simp [go_sem]; done) | (simp [go_sem]; omega)) _) | (refine Below.alloc ?_ (by first | omega | (simp [go_sem]; done) | (simp [go_sem]; omega)) _) | (refine Below.setCell ?_ (by first | omega | (simp [go_sem]; done) | (simp [go_sem]; omega)) _)))))))))
        refine wpQuiet_nil ?_
        rintro _ ⟨p1, rfl⟩
        go_wp2_with fail
        go_ret
        exact ⟨rfl, by (repeat (first | exact Below.refl _ _ | refine Below.drew ?_ | (refine below_gw' ?_ (by first | omega | (simp [go_sem]; done) | (simp [go_sem]; omega)) _) | (refine Below.alloc ?_ (by first | omega | (simp [go_sem]; done) | (simp [go_sem]; omega)) _) | (refine Below.setCell ?_ (by first | omega | (simp [go_sem]; done) | (simp [go_sem]; omega)) _)))⟩

    · obtain rfl : R = false := by cases R <;> simp_all
      have t1 : (k == k') = false := by simpa using e1
      clear hRR e1
      go_enter Tryz.func14, Tryz.ntmps14
      go_wp2_with fail
      refine wp_region_gw (by kernel_rfl) (by kernel_rfl) ?_
      repeat (go_big_quiet_step (first | (with_reducible (exact gw_quiet (HA.out _ (by (repeat (first | exact Below.refl _ _ | refine Below.drew ?_ | (refine below_gw' ?_ (by first | omega | (simp [go_sem]; done) | (simp [go_sem]; omega)) _) | (refine Below.alloc ?_ (by first | omega | (simp [go_sem]; done) | (simp [go_sem]; omega)) _) | (refine Below.setCell ?_ (by first | omega | (simp [go_sem]; done) | (simp [go_sem]; omega)) _))))))) | (with_reducible (exact gw_quiet (HB.out _ (by (repeat (first | exact Below.refl _ _ | refine Below.drew ?_ | (refine below_gw' ?_ (by first | omega | (simp [go_sem]; done) | (simp [go_sem]; omega)) _) | (refine Below.alloc ?_ (by first | omega | (simp [go_sem]; done) | (simp [go_sem]; omega)) _) | (refine Below.setCell ?_ (by first | omega | (simp [go_sem]; done) | (simp [go_sem]; omega)) _)))))))))
      refine wpQuiet_nil ?_
      rintro _ ⟨p1, rfl⟩
      go_wp2_with fail
      go_ret
      exact ⟨rfl, by (repeat (first | exact Below.refl _ _ | refine Below.drew ?_ | (refine below_gw' ?_ (by first | omega | (simp [go_sem]; done) | (simp [go_sem]; omega)) _) | (refine Below.alloc ?_ (by first | omega | (simp [go_sem]; done) | (simp [go_sem]; omega)) _) | (refine Below.setCell ?_ (by first | omega | (simp [go_sem]; done) | (simp [go_sem]; omega)) _)))⟩

end Go.Proofs.YtpkbonfbehhbdaaGreatDoor
