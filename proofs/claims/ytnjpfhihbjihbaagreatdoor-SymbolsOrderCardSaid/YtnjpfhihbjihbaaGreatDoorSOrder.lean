/- The order in which different symbols are defined does not matter for the values: SymbolsOrder returns true; no condition beyond the statement's own. -/
import Derived.Test.YtnjpfhihbjihbaaGreatDoorCards
import Derived.Test.YtnjpfhihbjihbaaGreatDoorS19
import Derived.Test.YtnjpfhihbjihbaaGreatDoorS29
import Derived.Test.YtnjpfhihbjihbaaGreatDoorS36
import Derived.Test.YtnjpfhihbjihbaaGreatDoorS39
import Derived.Test.YtnjpfhihbjihbaaGreatDoorS42
import Derived.Test.YtnjpfhihbjihbaaGreatDoorTie
import Derived.Deep.DeepHandedRow
import Derived.Lib.LaidTab
import Derived.Lib.SmallJoins
import Derived.Maps.AppendAt
import Derived.OpenShut
import Derived.ProofKit
import Derived.ShutString
/- Definitions of different symbols: their order does not matter. No program in sight. -/
namespace Go.Proofs.YtnjpfhihbjihbaaGreatDoor
open Go.RowKit Go.Sort

noncomputable def symsD : List Dfn → Option (List Sy)
  | [] => some []
  | d :: l => match symD d with | none => none | some s => (symsD l).map (s :: ·)
theorem symsD_cons (d : Dfn) (l : List Dfn) : symsD (d :: l) = (symD d).bind fun s => (symsD l).map (s :: ·) := by
  rw [symsD]
  rcases symD d with _ | s <;> rfl
theorem symsD_append (l m : List Dfn) : symsD (l ++ m) = (symsD l).bind fun a => (symsD m).map (a ++ ·) := by
  induction l with
  | nil =>
    rw [List.nil_append]
    show symsD m = (symsD m).map ([] ++ ·)
    rcases symsD m with _ | b <;> rfl
  | cons d l ih =>
    rw [List.cons_append, symsD_cons, symsD_cons, ih]
    rcases symD d with _ | s
    · rfl
    · rcases symsD l with _ | a
      · rfl
      · rcases symsD m with _ | b <;> rfl
theorem symsD_reverse (l : List Dfn) : symsD l.reverse = (symsD l).map List.reverse := by
  induction l with
  | nil => rfl
  | cons d l ih =>
    rw [List.reverse_cons, symsD_append, ih]
    have h1 : symsD [d] = (symD d).map fun s => [s] := by
      unfold symsD
      rcases symD d with _ | s <;> rfl
    rw [h1, symsD_cons]
    rcases symD d with _ | s
    · rcases symsD l with _ | a <;> rfl
    · rcases symsD l with _ | a
      · rfl
      · simp
theorem foldD_distinct : ∀ (l : List Dfn) (acc : List Sy), (acc.map Sy.name ++ l.map Dfn.name).Nodup → foldD acc l = (symsD l).map (acc ++ ·)
  | [], acc, _ => by unfold foldD symsD; simp
  | d :: l, acc, h => by
    unfold foldD symsD stepD
    rcases hd : symD d with _ | s
    · rfl
    · obtain ⟨ex, hs⟩ := symD_form hd
      have hname : s.name = d.name := by rw [hs]
      have hno : sfindS acc s.name = none := by
        rw [sfindS_none]
        intro y hy e
        rw [List.nodup_append] at h
        exact h.2.2 y.name (List.mem_map_of_mem hy) d.name (by simp) (e.trans hname)
      simp only [Option.map_some, hno, Option.isSome_none, Bool.false_eq_true, if_false]
      rw [foldD_distinct l (acc ++ [s]) (by
        rw [List.map_append, List.append_assoc]
        simpa [hname] using h)]
      rcases symsD l with _ | a
      · rfl
      · simp
theorem tableD_distinct {l : List Dfn} (h : (l.map Dfn.name).Nodup) (hl : l.length ≤ 20) : tableD l = symsD l := by
  unfold tableD
  rw [if_neg (by omega), foldD_distinct l [] (by simpa using h)]
  rcases symsD l with _ | a <;> simp
theorem tableD_rev {l : List Dfn} (h : (l.map Dfn.name).Nodup) (hl : l.length ≤ 20) : tableD l.reverse = (tableD l).map List.reverse := by
  rw [tableD_distinct h hl, tableD_distinct (by rw [List.map_reverse]; exact (List.reverse_perm _).nodup_iff.2 h) (by simpa using hl), symsD_reverse]
theorem Kn_rev {L : List Sy} (h : (L.map Sy.name).Nodup) : Kn L.reverse = Kn L :=
  Kn_ext fun t => sfindS_ext h (fun _ => List.mem_reverse) t
open Classical in
/-- The first definitions of each name. -/
noncomputable def firsts : List Dfn → List Dfn → List Dfn
  | acc, [] => acc
  | acc, d :: l => if d.name ∈ acc.map Dfn.name then firsts acc l else firsts (acc ++ [d]) l
open Classical in
theorem firsts_snoc : ∀ (l : List Dfn) (acc : List Dfn) (d : Dfn), firsts acc (l ++ [d]) = if d.name ∈ (firsts acc l).map Dfn.name then firsts acc l else firsts acc l ++ [d]
  | [], acc, d => by
    have e : firsts acc [] = acc := by unfold firsts; rfl
    rw [List.nil_append, e]
    by_cases h : d.name ∈ acc.map Dfn.name
    · rw [if_pos h]; unfold firsts; rw [if_pos h]; exact e
    · rw [if_neg h]; unfold firsts; rw [if_neg h]; unfold firsts; rfl
  | a :: l, acc, d => by
    simp only [List.cons_append, firsts]
    split
    · exact firsts_snoc l acc d
    · exact firsts_snoc l (acc ++ [a]) d
theorem firsts_nodup : ∀ (l acc : List Dfn), (acc.map Dfn.name).Nodup → ((firsts acc l).map Dfn.name).Nodup
  | [], _, h => h
  | a :: l, acc, h => by
    simp only [firsts]
    split
    · exact firsts_nodup l acc h
    · rename_i hn
      refine firsts_nodup l (acc ++ [a]) ?_
      rw [List.map_append, List.nodup_append]
      exact ⟨h, by simp, fun x hx y hy e => hn (by simp only [List.map_cons, List.map_nil, List.mem_singleton] at hy; rw [← hy, ← e]; exact hx)⟩
theorem firsts_mem : ∀ (l acc : List Dfn) (d : Dfn), d ∈ firsts acc l → d ∈ acc ∨ d ∈ l
  | [], _, _, h => .inl h
  | a :: l, acc, d, h => by
    simp only [firsts] at h
    split at h
    · rcases firsts_mem l acc d h with h | h
      · exact .inl h
      · exact .inr (List.mem_cons_of_mem _ h)
    · rcases firsts_mem l (acc ++ [a]) d h with h | h
      · rcases List.mem_append.1 h with h | h
        · exact .inl h
        · rw [List.mem_singleton] at h; subst h; exact .inr List.mem_cons_self
      · exact .inr (List.mem_cons_of_mem _ h)
end Go.Proofs.YtnjpfhihbjihbaaGreatDoor

/- slices.Reverse at definitions. -/
namespace Go.Proofs.YtnjpfhihbjihbaaGreatDoor
open Go.RowKit Go.Sort

open Go.Sort Go.ChangeMaps
theorem flatK_eq {α : Type} [Inhabited α] (f : α → List Value) (k : Nat) (hk : ∀ x, (f x).length = k) (hk0 : 0 < k) (F : List α) : (flatK f k F.toArray).toList = F.flatMap f := by
  apply List.ext_getElem?
  intro t
  by_cases ht : t < F.length * k
  · have hd : t / k < F.length := Nat.div_lt_of_lt_mul (by rw [Nat.mul_comm]; exact ht)
    have hm := Nat.mod_lt t hk0
    have h1 := flat_get f k hk F (t / k) F[t / k] (List.getElem?_eq_getElem hd) (t % k) hm
    rw [show t / k * k + t % k = t by rw [Nat.mul_comm]; exact Nat.div_add_mod t k] at h1
    rw [h1, Array.getElem?_toList]
    simp only [flatK, List.size_toArray, Array.getElem?_map, Array.getElem?_range, ht, if_true, Option.map_some]
    have e1 : (F.toArray)[t / k]! = F[t / k] := by simp [hd]
    rw [e1, List.getElem?_eq_getElem (by rw [hk]; exact hm)]
    congr 1
    rw [getElem!_pos _ _ (by rw [hk]; exact hm)]
  · rw [List.getElem?_eq_none (by simp [flatK]; omega), List.getElem?_eq_none (by rw [flat_len f k hk]; omega)]
theorem dfnc_one : ∀ (x : Dfn), ∀ v ∈ dfnc x, v.oneCell' = true := fun _ v hv => one5 rfl rfl rfl rfl rfl v hv
theorem reverse_any (base : Nat) (v : Value) (F : List Dfn) (w : World) (hown : w.ownsRow base 24 5 v F.length (F.flatMap dfnc)) (hl : F.length ≤ 1000000) (hb : base ≤ w.heap.size) :
    Calls Tryz.prog 17 #[v] w fun e w' => e = .returned (.tuple #[]) ∧ w'.ownsRow base 24 5 v F.length (F.reverse.flatMap dfnc) ∧ Below base w w' ∧ w.grownBy w' v.ownBlock := by
  rcases hown.2 with ⟨rfl, h0⟩ | ⟨g, cap, cur, rfl, hg, hbk, hn, hcap, hcur, htk⟩
  · obtain rfl : F = [] := List.eq_nil_of_length_eq_zero h0
    refine (AnyQ.slices_Reverse_empty Tryz.rev17 none 0 w).mono ?_
    rintro e w' ⟨rfl, rfl⟩
    exact ⟨rfl, hown, Below.refl _ _, World.grownBy.refl _ _⟩
  · have hfl : (flatK dfnc 5 F.toArray).size = F.length * 5 := by simp
    have hH : HoldsK dfnc 5 w g 0 F.toArray := by
      intro j hj
      rw [hfl] at hj
      refine ⟨?_, by simp [World.frozen?, hbk]⟩
      rw [Nat.zero_add, cell_at hbk j]
      have h1 : (cur.toList.take (F.length * 5))[j]? = (flatK dfnc 5 F.toArray).toList[j]? := by rw [htk, flatK_eq dfnc 5 (fun _ => rfl) (by decide)]
      rw [List.getElem?_take_of_lt hj, Array.getElem?_toList, Array.getElem?_toList] at h1
      rw [h1, getElem!_pos _ j (by rw [hfl]; exact hj), Array.getElem?_eq_getElem (by rw [hfl]; exact hj)]
      rfl
    have hrev := AnyQ.slices_Reverse Tryz.rev17 5 Tryz.isAgg24 Tryz.sizeOf24 dfnc (fun _ => rfl) dfnc_one g 0 cap F.toArray w hH (by simp; omega)
    refine (show Calls Tryz.prog 17 #[.slice (some ⟨g, 0, none⟩) F.length cap] w _ from hrev).mono ?_
    rintro e w2 ⟨rfl, n, hw2⟩
    have hheap : w2.heap[g]? = some (.cells (putCells id 0 (flatK dfnc 5 F.toArray.reverse) cur) 24 (0, 0)) := by
      rw [hw2]
      simp [putRowK, putRow, mapBlock, Sort.ahead, Array.getElem?_modify, hbk, onCells]
    have hrl : (flatK dfnc 5 F.toArray.reverse).toList = F.reverse.flatMap dfnc := by
      rw [← flatK_eq dfnc 5 (fun _ => rfl) (by decide)]
      simp
    have hrs : (flatK dfnc 5 F.toArray.reverse).size = F.length * 5 := by simp
    refine ⟨rfl, ⟨by rw [flat_len dfnc 5 (fun _ => rfl), List.length_reverse], .inr ⟨g, cap, _, rfl, hg, hheap, hn, hcap, by simp [putCells, hcur], ?_⟩⟩, ?_⟩
    · rw [← hrl]
      apply List.ext_getElem?
      intro j
      by_cases hj : j < F.length * 5
      · rw [List.getElem?_take_of_lt hj, Array.getElem?_toList, Array.getElem?_toList]
        have hjc : j < cur.size := by rw [hcur]; omega
        simp only [putCells, Array.getElem?_mapIdx, Array.getElem?_eq_getElem hjc, Option.map_some, Nat.zero_le, Nat.zero_add, hrs, hj, true_and, if_true, Nat.sub_zero, id]
        rw [getElem!_pos _ j (by rw [hrs]; exact hj), Array.getElem?_eq_getElem (by rw [hrs]; exact hj)]
      · rw [List.getElem?_take_eq_none (by omega), List.getElem?_eq_none (by rw [Array.length_toList, hrs]; omega)]
    · have hgr : w.grownBy w2 (some g) := by
        refine ⟨by rw [hw2]; rfl, by rw [hw2]; rfl, by rw [hw2]; rfl, by rw [hw2]; simp [putRowK, putRow, mapBlock, Sort.ahead], fun k hk hne => ?_⟩
        have hne2 : g ≠ k := fun e => hne (by rw [e])
        rw [hw2]
        simp [putRowK, putRow, mapBlock, Sort.ahead, Array.getElem?_modify, hne2]
      exact ⟨(Below.refl base w).grown hgr hb (fun q hq => by cases hq; exact hg), hgr⟩
end Go.Proofs.YtnjpfhihbjihbaaGreatDoor

/- The tables stand when a row of definitions is written. -/
namespace Go.Proofs.YtnjpfhihbjihbaaGreatDoor
open Go.RowKit Go.Sort

open Go.ChangeMaps
theorem ne_type {w : World} {g k : Nat} {c c' : Array Value} {T T' : TypeId} {r r' : Nat × Nat} (h : w.heap[g]? = some (Obj.cells c T r)) (h' : w.heap[k]? = some (Obj.cells c' T' r')) (hne : T ≠ T') : k ≠ g := fun e => by
  rw [e, h] at h'
  cases h'
  exact hne rfl
theorem grown_type {w w' : World} {g k : Nat} {c c' : Array Value} {T T' : TypeId} {r r' : Nat × Nat} (hg : w.grownBy w' (some g)) (h : w.heap[g]? = some (Obj.cells c T r)) (h' : w.heap[k]? = some (Obj.cells c' T' r')) (hne : T ≠ T') : w'.heap[k]? = some (Obj.cells c' T' r') := by
  rw [hg.block k (lt_of_block h') (fun e => ne_type h h' hne (Option.some.inj e))]; exact h'
theorem OptAt.other {T : TypeId} {w w' : World} {g : Nat} {c : Array Value} {r : Nat × Nat} {o : Option Ex} {v : Value} {T' : TypeId} (h : OptAt T' w o v) (hg : w.grownBy w' (some g)) (hb : w.heap[g]? = some (Obj.cells c T r)) (hne : T ≠ T') : OptAt T' w' o v := by
  cases o with
  | none => exact h
  | some x => exact NodeAt.keepT (fun k c' r' hk => grown_type hg hb hk hne) x v h
theorem Tabs20P.other {w w' : World} {g b gd : Nat} {rv : Value} {L : List Sy} {M R : List (Sy × Value)} {c : Array Value} {r : Nat × Nat} (h : Tabs20P w g b rv L M R) (hg : w.grownBy w' (some gd)) (hb : w.heap[gd]? = some (Obj.cells c 24 r)) : Tabs20P w' g b rv L M R := by
  refine ⟨⟨grown_type hg hb h.ti.head (by decide), h.ti.map.block ?_, fun x hx => (h.ti.node x hx).other hg hb (by decide)⟩, h.hm, ⟨?_, fun x hx => (h.rt.2 x hx).other hg hb (by decide)⟩, h.hr, h.okM, h.okR, h.ndR, h.lenR, h.lenM, h.nmM, h.nmsM⟩
  · refine hg.block b h.ti.map.lt (fun e => ?_)
    obtain ⟨es, c2, h1, _⟩ := h.ti.map
    rw [Option.some.inj e, hb] at h1
    cases h1
  · obtain ⟨base, ho⟩ := h.rt.1
    refine ⟨base, kept_of ho hg fun q hq e => ?_⟩
    rcases ho.2 with ⟨a, _⟩ | ⟨g1, _, _, a, _, c1, _⟩
    · rw [a] at e; cases e
    · rw [a] at e; cases e; cases hq
      exact ne_type hb c1 (by decide) rfl
theorem Tabs20P.rev {w w' : World} {g b base n : Nat} {rv v : Value} {L : List Sy} {M R : List (Sy × Value)} {xs : List Value} (h : Tabs20P w g b rv L M R) (ho : w.ownsRow base 24 5 v n xs) (hg : w.grownBy w' v.ownBlock) : Tabs20P w' g b rv L M R := by
  rcases ho.2 with ⟨rfl, _⟩ | ⟨gd, cap, cur, rfl, _, hb, _⟩
  · exact h.below ((Below.refl w.heap.size w).grown hg (Nat.le_refl _) (fun q hq => by cases hq))
  · exact h.other hg hb
end Go.Proofs.YtnjpfhihbjihbaaGreatDoor

/- The walk of the law SymbolsOrder. -/
namespace Go.Proofs.YtnjpfhihbjihbaaGreatDoor
open Go.RowKit Go.Sort

open Go.ChangeMaps
theorem contains_yes (L : List (List UInt8)) (s : ByteArray) (v : Value) (w : World) (hr : Row w v L.length (L.map Proofs.encStr)) (hl : L.length ≤ 1000000) (hn : s.data.toList ∈ L) :
    Calls Tryz.prog 16 #[v, .string s] w fun e w' => e = .returned (.bool true) ∧ Below w.heap.size w w' := by
  obtain ⟨a, cap, rfl, hcap, hc⟩ := hr
  have hL : L ≠ [] := by rintro rfl; cases hn
  obtain ⟨g, o, rfl, hg, hcc⟩ := hc (by simpa using hL)
  have hM : (L.map fun y => (⟨y.toArray⟩ : ByteArray)).length = L.length := by simp
  refine (Tryz.slices_Contains_string g o L.length cap (L.map fun y => (⟨y.toArray⟩ : ByteArray)) s w (by rw [hM]; exact Nat.le_refl _) (by omega) (fun j hj => (hcc j (by rw [List.length_map]; rw [hM] at hj; exact hj)).trans ?_)).mono ?_
  · rw [hM] at hj
    simp [List.getD, List.getElem?_eq_getElem hj, Proofs.encStr]
  · rintro e w' ⟨he, rfl⟩
    refine ⟨?_, Below.refl _ _⟩
    rw [he]
    congr 2
    rw [Lib.containsS_iff, List.take_of_length_le (by simp)]
    exact List.mem_map.2 ⟨_, hn, by simp⟩
theorem own_types {w : World} {b1 b2 : Nat} {e1 e2 : TypeId} {s1 s2 : Nat} {v1 v2 : Value} {n1 n2 : Nat} {x1 x2 : List Value} (h1 : w.ownsRow b1 e1 s1 v1 n1 x1) (h2 : w.ownsRow b2 e2 s2 v2 n2 x2) (hne : e1 ≠ e2) : ∀ g, v1.ownBlock = some g → v2.ownBlock ≠ some g := fun g hg hg2 => by
  rcases h1.2 with ⟨a, _⟩ | ⟨g1, _, _, a, _, c1, _⟩
  · rw [a] at hg; cases hg
  · rcases h2.2 with ⟨a2, _⟩ | ⟨g2, _, _, a2, _, c2, _⟩
    · rw [a2] at hg2; cases hg2
    · rw [a] at hg; rw [a2] at hg2
      cases hg; cases hg2
      rw [c1] at c2
      exact hne (by cases c2; rfl)
theorem own_one {w : World} {base g : Nat} {T : TypeId} {d : Dfn} (h : w.heap[g]? = some (.cells #[.string d.name, .int .i64 d.n, .string d.text, .int .i64 d.here, .int .i64 d.line] T (0, 0))) (hb : base ≤ g) : w.ownsRow base T 5 (.slice (some ⟨g, 0, none⟩) 1 1) 1 (dfnc d) :=
  ⟨rfl, .inr ⟨g, 1, _, rfl, hb, h, Nat.le_refl _, by decide, rfl, rfl⟩⟩
theorem src_own {w : World} {base : Nat} {e : TypeId} {size : Nat} {v : Value} {n : Nat} {xs : List Value} (h : w.ownsRow base e size v n xs) : SrcAt w v n xs := by
  rcases h.2 with ⟨h1, h2⟩ | ⟨g, cap, cur, h1, hg, hh, hn, hc, hs, ht⟩
  · exact .inl ⟨h2, h1⟩
  · refine .inr ⟨⟨g, 0, none⟩, cap, h1, fun j u hj => ?_⟩
    rw [addr_add, Nat.zero_add, cell_at hh j]
    have hlt := (List.getElem?_eq_some_iff.1 hj).1
    rw [← ht, List.getElem?_take_of_lt (by rw [h.1] at hlt; exact hlt), Array.getElem?_toList] at hj
    exact hj
/-- What holds at the head of the law's loop. -/
def OrdLoop (l : List Dfn) (B : Nat) (w : World) (k : Nat) (vb vn : Value) (wr : World) : Prop :=
  ∃ F, firsts [] (l.take k) = F ∧ F.length ≤ 20 ∧ wr.ownsRow B 9 1 vn F.length ((F.map fun d => d.name.data.toList).map Proofs.encStr) ∧ wr.ownsRow B 24 5 vb F.length (F.reverse.flatMap dfnc) ∧ Below w.heap.size w wr
theorem dfnInfo : (Tryz.prog.info? 24).map (fun i => (i.zero, i.size, i.bytes)) = some (some (.agg #[.string ⟨#[]⟩, .int .i64 0, .string ⟨#[]⟩, .int .i64 0, .int .i64 0]), 5, 56) := by kernel_rfl
set_option maxHeartbeats 4000000 in
set_option maxRecDepth 100000 in
theorem lawSOrder (v : Value) (l : List Dfn) (w : World) (h0 : Row w v l.length (l.flatMap dfnc) ∧ l.length ≤ maxLen ∧ ∀ d ∈ l, d.name.size ≤ maxLen ∧ d.text.size ≤ maxLen) :
    Calls Tryz.prog 4 #[v] w fun e w' => e = .returned (.bool true) ∧ Below w.heap.size w w' := by
  obtain ⟨i0, hi, hz0, hz1, hz2⟩ := info_parts Tryz.infoString
  obtain ⟨j0, hj, hy0, hy1, hy2⟩ := info_parts dfnInfo
  obtain ⟨hr, hl, hszs⟩ := h0
  unfold maxLen at hl
  obtain ⟨a, cap, rfl, hcap, hc⟩ := hr.structs dfnc 5 (fun _ => rfl) (by decide)
  have hc1 : (l.length : Int) ≤ (cap : Int) := by omega
  have hc2 : (l.length : Int) ≤ 9223372036854775807 := by omega
  have HC := Lib.hid hc
  have HSZ := Lib.hid hszs
  clear hc hr hszs
  go_enter Tryz.func4, Tryz.ntmps4
  go_wp2_with fail
  go_loopw [3, 4, 15] (fun u s i wr => ∃ k : Nat, k ≤ l.length ∧ i = .int .i64 k ∧ OrdLoop l w.heap.size w k u s wr) (fun _ _ i _ => l.length - (intOf i).toNat)
  case atStart => exact ⟨0, Nat.zero_le _, rfl, [], by unfold firsts; rfl, Nat.zero_le _, World.ownsRow_nil _ _ _ _, World.ownsRow_nil _ _ _ _, Below.refl _ _⟩
  case round =>
    obtain ⟨k, hk, rfl, F, hF, hF20, hnm, hbk, hbel⟩ := hrel
    have HF := Lib.hid hF
    have hrown := Row.of_owns hnm
    have hrowb := Row.of_owns hbk
    obtain ⟨an, capn, rfl, hcn, _⟩ := Row.of_owns hnm
    have hF20i : ¬ (20 : Int) < (F.length : Int) := by omega
    have HNM := Lib.hid hnm
    have HBK := Lib.hid hbk
    have HBEL := Lib.hid hbel
    have hszr := hbel.size
    by_cases hlt : k < l.length
    · obtain ⟨d, hd⟩ : ∃ d, l[k]? = some d := ⟨_, List.getElem?_eq_getElem hlt⟩
      obtain ⟨gr, o, rfl, hgr, hcs⟩ := HC.out (by rintro rfl; simp at hd)
      have f0 : wr.cell? ⟨gr, o + k * 5, none⟩ = some (.string d.name) := (hbel.cell (p := ⟨gr, o + k * 5, none⟩) hgr).trans (hcs k d hd 0 (by decide))
      have f1 : wr.cell? ⟨gr, o + k * 5 + 1, none⟩ = some (.int .i64 d.n) := (hbel.cell (p := ⟨gr, o + k * 5 + 1, none⟩) hgr).trans (hcs k d hd 1 (by decide))
      have f2 : wr.cell? ⟨gr, o + k * 5 + 2, none⟩ = some (.string d.text) := (hbel.cell (p := ⟨gr, o + k * 5 + 2, none⟩) hgr).trans (hcs k d hd 2 (by decide))
      have f3 : wr.cell? ⟨gr, o + k * 5 + 3, none⟩ = some (.int .i64 d.here) := (hbel.cell (p := ⟨gr, o + k * 5 + 3, none⟩) hgr).trans (hcs k d hd 3 (by decide))
      have f4 : wr.cell? ⟨gr, o + k * 5 + 4, none⟩ = some (.int .i64 d.line) := (hbel.cell (p := ⟨gr, o + k * 5 + 4, none⟩) hgr).trans (hcs k d hd 4 (by decide))
      have hi0 : (0 : Int) ≤ (k : Int) := by omega
      have hi1 : (k : Int) < (l.length : Int) := by omega
      have hnext := firsts_snoc (l.take k) [] d
      rw [hF] at hnext
      have htk : l.take (k + 1) = l.take k ++ [d] := by rw [List.take_add_one, hd]; rfl
      rw [← htk] at hnext
      have HNX := Lib.hid hnext
      have hrow := fun w' (hb : Below wr.heap.size wr w') => hrown.below hb
      have hlm : (F.map fun d => d.name.data.toList).length = F.length := by simp
      clear hnext htk hF hnm hbk hbel hcs hd
      by_cases hmem : d.name ∈ F.map Dfn.name
      · have hcy := fun w' (hb : Below wr.heap.size wr w') => contains_yes (F.map fun d => d.name.data.toList) d.name (.slice an F.length capn) w' (by rw [hlm]; exact hrow w' hb) (by omega) (by
          obtain ⟨y, hy, e⟩ := List.mem_map.1 hmem
          exact List.mem_map.2 ⟨y, hy, by rw [e]⟩)
        have HCY := Lib.hid hcy
        have hfs : firsts [] (l.take (k + 1)) = F := by rw [HNX.out, if_pos hmem]
        have HFS := Lib.hid hfs
        clear hcy hrow hmem hfs hlm HNX
        go_wp2_with fail
        (with_reducible refine (HCY.out _ (by (repeat (first | exact Below.refl _ _ | refine Below.drew ?_ | (refine below_gw' ?_ (by first | omega | (simp [go_sem]; done) | (simp [go_sem]; omega)) _) | (refine Below.alloc ?_ (by first | omega | (simp [go_sem]; done) | (simp [go_sem]; omega)) _) | (refine Below.setCell ?_ (by first | omega | (simp [go_sem]; done) | (simp [go_sem]; omega)) _))))).mono ?_)
        rintro e w3 ⟨rfl, hb3⟩
        obtain ⟨p3, rfl⟩ := gw_of_below hb3
        clear hb3
        go_wp2_with fail
        go_roundw
        case rel => exact ⟨k + 1, by omega, by go_num, F, HFS.out, hF20, owns_below' HNM.out (by (repeat (first | exact Below.refl _ _ | refine Below.drew ?_ | (refine below_gw' ?_ (by first | omega | (simp [go_sem]; done) | (simp [go_sem]; omega)) _) | (refine Below.alloc ?_ (by first | omega | (simp [go_sem]; done) | (simp [go_sem]; omega)) _) | (refine Below.setCell ?_ (by first | omega | (simp [go_sem]; done) | (simp [go_sem]; omega)) _)))), owns_below' HBK.out (by (repeat (first | exact Below.refl _ _ | refine Below.drew ?_ | (refine below_gw' ?_ (by first | omega | (simp [go_sem]; done) | (simp [go_sem]; omega)) _) | (refine Below.alloc ?_ (by first | omega | (simp [go_sem]; done) | (simp [go_sem]; omega)) _) | (refine Below.setCell ?_ (by first | omega | (simp [go_sem]; done) | (simp [go_sem]; omega)) _)))), bthen2 HBEL.out (by (repeat (first | exact Below.refl _ _ | refine Below.drew ?_ | (refine below_gw' ?_ (by first | omega | (simp [go_sem]; done) | (simp [go_sem]; omega)) _) | (refine Below.alloc ?_ (by first | omega | (simp [go_sem]; done) | (simp [go_sem]; omega)) _) | (refine Below.setCell ?_ (by first | omega | (simp [go_sem]; done) | (simp [go_sem]; omega)) _))))⟩
        case measure => simp [intOf]; omega
      · have hcy := fun w' (hb : Below wr.heap.size wr w') => contains_no (F.map fun d => d.name.data.toList) d.name (.slice an F.length capn) w' (by rw [hlm]; exact hrow w' hb) (by omega) (fun h => hmem (by
          obtain ⟨y, hy, e⟩ := List.mem_map.1 h
          exact List.mem_map.2 ⟨y, hy, data_inj e⟩))
        have HCY := Lib.hid hcy
        have hfs : firsts [] (l.take (k + 1)) = F ++ [d] := by rw [HNX.out, if_neg hmem]
        have HFS := Lib.hid hfs
        clear hcy hrow hmem hfs hlm HNX
        go_wp2_with fail
        (with_reducible refine (HCY.out _ (by (repeat (first | exact Below.refl _ _ | refine Below.drew ?_ | (refine below_gw' ?_ (by first | omega | (simp [go_sem]; done) | (simp [go_sem]; omega)) _) | (refine Below.alloc ?_ (by first | omega | (simp [go_sem]; done) | (simp [go_sem]; omega)) _) | (refine Below.setCell ?_ (by first | omega | (simp [go_sem]; done) | (simp [go_sem]; omega)) _))))).mono ?_)
        rintro e w3 ⟨rfl, hb3⟩
        obtain ⟨hbw3, hsz3, k0, k1, k2, k3, k4⟩ := box5_all hb3
        have hszw3 : w.heap.size ≤ w3.heap.size := Nat.le_trans hszr hbw3.size
        have HNM3 := Lib.hid (owns_below' HNM.out hbw3)
        have HBK3 := Lib.hid (owns_below' HBK.out hbw3)
        have HB3 : Hid (Below w.heap.size w w3) := Lib.hid (bthen2 HBEL.out hbw3)
        clear hb3 f0 f1 f2 f3 f4 hrown hrowb
        go_wp2_with (at_builtin; refine wpList_append_own _ rfl _ _ 45 rfl w.heap.size 9 i0 (.string ⟨#[]⟩) 1 16 Tryz.underlying45 hi hz0 hz1 hz2 rfl (by decide) _ F.length _ rfl (owns_below' HNM3.out (by (repeat (first | exact Below.refl _ _ | refine Below.drew ?_ | (refine below_gw' ?_ (by first | omega | (simp [go_sem]; done) | (simp [go_sem]; omega)) _) | (refine Below.alloc ?_ (by first | omega | (simp [go_sem]; done) | (simp [go_sem]; omega)) _) | (refine Below.setCell ?_ (by first | omega | (simp [go_sem]; done) | (simp [go_sem]; omega)) _))))) _ 1 1 [.string d.name] rfl rfl (Go.cell_one_new _ _ _) (fun u hu => by simp at hu; rcases hu with rfl; rfl) (by unfold maxLen; omega) (by omega) (Nat.le_trans hszw3 (Below.size (show Below w3.heap.size w3 _ by (repeat (first | exact Below.refl _ _ | refine Below.drew ?_ | (refine below_gw' ?_ (by first | omega | (simp [go_sem]; done) | (simp [go_sem]; omega)) _) | (refine Below.alloc ?_ (by first | omega | (simp [go_sem]; done) | (simp [go_sem]; omega)) _) | (refine Below.setCell ?_ (by first | omega | (simp [go_sem]; done) | (simp [go_sem]; omega)) _)))))) ?_)
        intro v4 w4 hown4 hg4 hn4
        have hb4 : Below w.heap.size w w4 := Below.grown (bthen2 HB3.out (show Below w3.heap.size w3 _ by (repeat (first | exact Below.refl _ _ | refine Below.drew ?_ | (refine below_gw' ?_ (by first | omega | (simp [go_sem]; done) | (simp [go_sem]; omega)) _) | (refine Below.alloc ?_ (by first | omega | (simp [go_sem]; done) | (simp [go_sem]; omega)) _) | (refine Below.setCell ?_ (by first | omega | (simp [go_sem]; done) | (simp [go_sem]; omega)) _))))) hg4 (Nat.le_trans hszw3 (Below.size (show Below w3.heap.size w3 _ by (repeat (first | exact Below.refl _ _ | refine Below.drew ?_ | (refine below_gw' ?_ (by first | omega | (simp [go_sem]; done) | (simp [go_sem]; omega)) _) | (refine Below.alloc ?_ (by first | omega | (simp [go_sem]; done) | (simp [go_sem]; omega)) _) | (refine Below.setCell ?_ (by first | omega | (simp [go_sem]; done) | (simp [go_sem]; omega)) _)))))) (own_low HNM3.out)
        have hbk4 := kept_of (owns_below' HBK3.out (show Below w3.heap.size w3 _ by (repeat (first | exact Below.refl _ _ | refine Below.drew ?_ | (refine below_gw' ?_ (by first | omega | (simp [go_sem]; done) | (simp [go_sem]; omega)) _) | (refine Below.alloc ?_ (by first | omega | (simp [go_sem]; done) | (simp [go_sem]; omega)) _) | (refine Below.setCell ?_ (by first | omega | (simp [go_sem]; done) | (simp [go_sem]; omega)) _))))) hg4 (own_types HNM3.out HBK3.out (by decide))
        have hkp : ∀ j, w4.cell? ⟨wr.heap.size, j, none⟩ = w3.cell? ⟨wr.heap.size, j, none⟩ := fun j => by
          have e1 := World.cell?_of_block (a := ⟨wr.heap.size, j, none⟩) (hg4.block wr.heap.size (by show _ < (w3.heap.push _).size; simp; omega) (fun e => absurd (blk_lt HNM.out _ e.symm) (Nat.lt_irrefl _)))
          rw [e1]
          exact (Below.refl w3.heap.size w3).alloc (Nat.le_refl _) _ |>.cell (p := ⟨wr.heap.size, j, none⟩) hsz3
        have m0 := (hkp 0).trans k0
        have m1 := (hkp 1).trans k1
        have m2 := (hkp 2).trans k2
        have m3 := (hkp 3).trans k3
        have m4 := (hkp 4).trans k4
        have hown4' : w4.ownsRow w.heap.size 9 1 v4 (F.length + 1) (((F ++ [d]).map fun d => d.name.data.toList).map Proofs.encStr) := by
          rw [List.map_append, List.map_append, List.map_map]
          have := hown4
          rw [← enc_self d.name] at this
          exact this
        obtain ⟨a4, c4, rfl, hc4, _⟩ := Row.of_owns hown4'
        have HNM4 := Lib.hid hown4'
        have HBK4 := Lib.hid hbk4
        have HB4 := Lib.hid hb4
        have hsz4 := hb4.size
        have hlb : wr.heap.size < w4.heap.size := cell_lt m0
        clear hown4 hown4' hbk4 hb4 hg4 hn4 hkp k0 k1 k2 k3 k4
        go_wp2_with (at_builtin; refine wpList_append_src rfl _ _ 22 rfl w.heap.size 24 j0 (.agg #[.string ⟨#[]⟩, .int .i64 0, .string ⟨#[]⟩, .int .i64 0, .int .i64 0]) 5 56 Tryz.underlying22 hj hy0 hy1 hy2 rfl (by decide) _ 1 (dfnc d) rfl (own_one (alloc_at' _ _) hsz4) _ F.length (F.reverse.flatMap dfnc) rfl (src_own (owns_below' HBK4.out (by (repeat (first | exact Below.refl _ _ | refine Below.drew ?_ | (refine below_gw' ?_ (by first | omega | (simp [go_sem]; done) | (simp [go_sem]; omega)) _) | (refine Below.alloc ?_ (by first | omega | (simp [go_sem]; done) | (simp [go_sem]; omega)) _) | (refine Below.setCell ?_ (by first | omega | (simp [go_sem]; done) | (simp [go_sem]; omega)) _)))))) (by rw [flat_len dfnc 5 (fun _ => rfl), List.length_reverse]) (fun u hu => by obtain ⟨x, _, hx⟩ := List.mem_flatMap.1 hu; exact dfnc_one x u hx) (by unfold maxLen; omega) (by omega) (Nat.le_trans hsz4 (Below.size (show Below w4.heap.size w4 _ by (repeat (first | exact Below.refl _ _ | refine Below.drew ?_ | (refine below_gw' ?_ (by first | omega | (simp [go_sem]; done) | (simp [go_sem]; omega)) _) | (refine Below.alloc ?_ (by first | omega | (simp [go_sem]; done) | (simp [go_sem]; omega)) _) | (refine Below.setCell ?_ (by first | omega | (simp [go_sem]; done) | (simp [go_sem]; omega)) _)))))) ?_)
        intro v5 w5 hown5 hg5 hn5
        have hb5 : Below w.heap.size w w5 := Below.grown (bthen2 HB4.out (show Below w4.heap.size w4 _ by (repeat (first | exact Below.refl _ _ | refine Below.drew ?_ | (refine below_gw' ?_ (by first | omega | (simp [go_sem]; done) | (simp [go_sem]; omega)) _) | (refine Below.alloc ?_ (by first | omega | (simp [go_sem]; done) | (simp [go_sem]; omega)) _) | (refine Below.setCell ?_ (by first | omega | (simp [go_sem]; done) | (simp [go_sem]; omega)) _))))) hg5 (Nat.le_trans hsz4 (Below.size (show Below w4.heap.size w4 _ by (repeat (first | exact Below.refl _ _ | refine Below.drew ?_ | (refine below_gw' ?_ (by first | omega | (simp [go_sem]; done) | (simp [go_sem]; omega)) _) | (refine Below.alloc ?_ (by first | omega | (simp [go_sem]; done) | (simp [go_sem]; omega)) _) | (refine Below.setCell ?_ (by first | omega | (simp [go_sem]; done) | (simp [go_sem]; omega)) _)))))) (fun q hq => by have h := Option.some.inj hq; dsimp only at h; omega)
        have hnm5 := kept_of (owns_below' HNM4.out (show Below w4.heap.size w4 _ by (repeat (first | exact Below.refl _ _ | refine Below.drew ?_ | (refine below_gw' ?_ (by first | omega | (simp [go_sem]; done) | (simp [go_sem]; omega)) _) | (refine Below.alloc ?_ (by first | omega | (simp [go_sem]; done) | (simp [go_sem]; omega)) _) | (refine Below.setCell ?_ (by first | omega | (simp [go_sem]; done) | (simp [go_sem]; omega)) _))))) hg5 (fun g hg e => by have h := Option.some.inj hg; dsimp only at h; have := blk_lt HNM4.out g e; omega)
        have HOWN5 : Hid (w5.ownsRow w.heap.size 24 5 v5 (F ++ [d]).length ((F ++ [d]).reverse.flatMap dfnc)) := Lib.hid (by
          rw [List.length_append, List.reverse_append]
          have := hown5
          rw [Nat.add_comm] at this
          exact this)
        have HNM5 := Lib.hid hnm5
        have HB5 := Lib.hid hb5
        clear hown5 hg5 hn5 hb5 hnm5 m0 m1 m2 m3 m4
        by_cases h21 : (20 : Int) < (F.length : Int) + 1
        · go_wp2_with fail
          (with_reducible refine (alive20 _).mono ?_)
          rintro e w6 ⟨rfl, hb6⟩
          have HB6 := Lib.hid (bthen2 HB5.out hb6)
          clear hb6
          go_wp2_with fail
          go_ret
          exact ⟨rfl, HB6.out⟩
        · have h21n : (F ++ [d]).length ≤ 20 := by rw [List.length_append]; simp; omega
          have H21 := Lib.hid h21n
          clear h21n
          go_wp2_with fail
          go_roundw
          case rel => exact ⟨k + 1, by omega, by go_num, F ++ [d], HFS.out, H21.out, by rw [List.length_append]; exact HNM5.out, HOWN5.out, HB5.out⟩
          case measure => simp [intOf]; omega
    · obtain rfl : k = l.length := by omega
      rw [List.take_length] at hF
      have hFn : (F.map Dfn.name).Nodup := by rw [← hF]; exact firsts_nodup l [] List.nodup_nil
      have hFs : ∀ d ∈ F, d.name.size ≤ maxLen ∧ d.text.size ≤ maxLen := fun d hd => by
        rw [← hF] at hd
        rcases firsts_mem l [] d hd with h | h
        · cases h
        · exact HSZ.out d h
      have hrl : (F.reverse).length = F.length := List.length_reverse
      have hbu := build_any F.reverse u3 wr (by rw [hrl]; exact hrowb) (by rw [hrl]; unfold maxLen; omega) (fun d hd => hFs d (List.mem_reverse.1 hd))
      unfold BuildRes at hbu
      have HBU := Lib.hid hbu
      have HFN := Lib.hid hFn
      have HFS := Lib.hid hFs
      clear hbu hFn hFs hF hnm hbk hbel hrown hrowb hrl
      go_wp2_with fail
      (with_reducible refine HBU.out.mono ?_)
      rintro e w2 ⟨hb2, hres⟩
      have HB2 := Lib.hid (bthen2 HBEL.out hb2)
      have HBK2 := Lib.hid (owns_below' HBK.out hb2)
      clear hb2
      rcases hres with ⟨_, rfl⟩ | ⟨L, g, b, rv, hL, rfl, htabs, hgb⟩
      · go_wp2_with fail
        (with_reducible refine (alive20 _).mono ?_)
        rintro e w4 ⟨rfl, hb4⟩
        have HB4 := Lib.hid hb4; clear hb4
        go_wp2_with fail
        go_ret
        exact ⟨rfl, bthen2 HB2.out HB4.out⟩
      · obtain ⟨M, R, hp⟩ := htabs.parts hL
        have hrev := reverse_any w.heap.size u3 F.reverse w2 (by rw [List.length_reverse]; exact HBK2.out) (by rw [List.length_reverse]; omega) HB2.out.size
        rw [List.length_reverse, List.reverse_reverse] at hrev
        have hTR : ∃ L', tableD F = some L' ∧ L = L'.reverse := by
          rw [tableD_rev HFN.out hF20] at hL
          rcases h : tableD F with _ | L'
          · rw [h] at hL; cases hL
          · rw [h] at hL; exact ⟨L', rfl, (Option.some.inj hL).symm⟩
        obtain ⟨L', hL', rfl⟩ := hTR
        have HP := Lib.hid hp
        have HREV := Lib.hid hrev
        have HL := Lib.hid hL'
        clear hp hrev htabs hL hL' hgb
        go_wp2_with fail
        (with_reducible refine HREV.out.mono ?_)
        rintro e w3 ⟨rfl, hown3, hb3, hg3⟩
        have HP3 := Lib.hid (HP.out.rev HBK2.out hg3)
        have HB3 : Hid (Below w.heap.size w w3) := Lib.hid (HB2.out.trans hb3)
        have hbu2 := build_any F u3 w3 (Row.of_owns hown3) (by unfold maxLen; omega) HFS.out
        unfold BuildRes at hbu2
        have HBU2 := Lib.hid hbu2
        clear hbu2 hown3 hb3 hg3
        go_wp2_with fail
        (with_reducible refine HBU2.out.mono ?_)
        rintro e w4 ⟨hb4, hres4⟩
        rcases hres4 with ⟨hno, rfl⟩ | ⟨L2, g2, b2, rv2, hL2, rfl, htabs2, _⟩
        · exact absurd (hno.symm.trans HL.out) (by simp)
        · obtain rfl : L' = L2 := Option.some.inj (HL.out.symm.trans hL2)
          obtain ⟨M2, R2, hp2⟩ := htabs2.parts hL2
          have hnd : (L'.map Sy.name).Nodup := by rw [← hp2.hr]; exact hp2.ndR
          have HKR : Hid (Kn L'.reverse = Kn L') := Lib.hid (Kn_rev hnd)
          have HP4 := Lib.hid (HP3.out.below hb4)
          have HQ4 := Lib.hid hp2
          have HB4 : Hid (Below w.heap.size w w4) := Lib.hid (bthen2 HB3.out hb4)
          clear hb4 hL2 htabs2 hp2 hnd
          go_wp2_with fail
          (with_reducible refine (alive20 _).mono ?_)
          rintro e w5 ⟨rfl, hb5⟩
          have HP5 := Lib.hid (HP4.out.below hb5)
          have HQ5 := Lib.hid (HQ4.out.below hb5)
          have HB5 : Hid (Below w.heap.size w w5) := Lib.hid (bthen2 HB4.out hb5)
          clear hb5
          go_wp2_with fail
          (with_reducible refine HP5.out.known.mono ?_)
          rintro e w6 ⟨m, rfl, hm6, hb6⟩
          have HP6 := Lib.hid (HP5.out.below hb6)
          have HQ6 := Lib.hid (HQ5.out.below hb6)
          have HB6 : Hid (Below w.heap.size w w6) := Lib.hid (bthen2 HB5.out hb6)
          have HM6 := Lib.hid hm6
          clear hb6 hm6
          go_wp2_with fail
          (with_reducible refine HP6.out.rknown.mono ?_)
          rintro e w7 ⟨vo, rfl, hr7, hb7⟩
          have HP7 := Lib.hid (HP6.out.below hb7)
          have HQ7 := Lib.hid (HQ6.out.below hb7)
          have HB7 : Hid (Below w.heap.size w w7) := Lib.hid (bthen2 HB6.out hb7)
          have HM7 := Lib.hid (HM6.out.below hb7)
          have HV7 := Lib.hid hr7
          clear hb7 hr7
          go_wp2_with fail
          (with_reducible refine (HP7.out.same _ _ _ HM7.out HV7.out).mono ?_)
          rintro e w8 ⟨rfl, hb8⟩
          have HP8 := Lib.hid (HP7.out.below hb8)
          have HQ8 := Lib.hid (HQ7.out.below hb8)
          have HB8 : Hid (Below w.heap.size w w8) := Lib.hid (bthen2 HB7.out hb8)
          clear hb8
          go_wp2_with fail
          (with_reducible refine HQ8.out.known.mono ?_)
          rintro e w9 ⟨m9, rfl, hm9, hb9⟩
          have HP9 := Lib.hid (HP8.out.below hb9)
          have HB9 : Hid (Below w.heap.size w w9) := Lib.hid (bthen2 HB8.out hb9)
          have HM9 : Hid (KnMap w9 L'.reverse m9) := Lib.hid (by unfold KnMap at hm9 ⊢; rw [HKR.out]; exact hm9)
          clear hb9 hm9
          go_wp2_with fail
          (with_reducible refine HP9.out.rknown.mono ?_)
          rintro e w10 ⟨vp, rfl, hr10, hb10⟩
          have HP10 := Lib.hid (HP9.out.below hb10)
          have HB10 : Hid (Below w.heap.size w w10) := Lib.hid (bthen2 HB9.out hb10)
          have HM10 := Lib.hid (HM9.out.below hb10)
          have HV10 := Lib.hid hr10
          clear hb10 hr10
          go_wp2_with fail
          (with_reducible refine (HP10.out.same _ _ _ HM10.out HV10.out).mono ?_)
          rintro e w11 ⟨rfl, hb11⟩
          have HB11 : Hid (Below w.heap.size w w11) := Lib.hid (bthen2 HB10.out hb11)
          clear hb11
          go_wp2_with fail
          go_ret
          exact ⟨rfl, HB11.out⟩
end Go.Proofs.YtnjpfhihbjihbaaGreatDoor

/- The order in which different symbols are defined does not matter for the values: SymbolsOrder returns true; no condition beyond the statement's own. -/
namespace Go.Proofs.YtnjpfhihbjihbaaGreatDoor.lawSymbolsOrder
open Go.ChangeShapes Go.WideShapes Go.ChangeAt Go.RowKit Go.Joins
open Go.ChangeMaps (open_string shut_string)

theorem own : ownKnob Tryz.prog.godebug = none := by kernel_rfl
theorem laidOut : laidOutB Tryz.prog = true := by kernel_rfl

/-- A table of the row's list reads as it is listed, wherever it stands on the list. -/
theorem tab_of_list {P : Program} {W : World} {name : String} {k : IntKind} {zs : List Int} {g : Nat} {t e : TypeId} {n : Nat}
    (hg : P.globalNamed name = some g) (hty : (P.globals[g]?).map (·.type) = some t) (ht : P.underlying t = some (.array n e)) (he : P.underlying e = some (.int k)) (hce : P.cellsOf e = 1) (hct : P.cellsOf t = n) :
    ∀ (l : List (String × DataW Unit)) (ps : List MemPlace), DataW.LaidVars P W l ps → (name, Lib.tabData k zs) ∈ l → Lib.TabIs P W name k zs
  | [], _, _, hm => by cases hm
  | x :: l, ps, h, hm => by
    obtain ⟨nm, d⟩ := x
    obtain ⟨g', t', cs, fuel, p, q, hg', ht', hvar, hd, hrest, _⟩ := h
    rcases List.mem_cons.1 hm with hm | hm
    · cases hm
      obtain rfl := Option.some.inj (hg.symm.trans hg')
      obtain rfl := Option.some.inj (hty.symm.trans ht')
      unfold Lib.TabIs
      rw [hvar, ← Lib.cells_of_tab ht he hce hct hd]
    · exact tab_of_list hg hty ht he hce hct l q hrest hm

theorem table {W : World} (h : laidMetH Tryz.prog Rows.symbolsOrderRow.laid W) : Tabs W := by
  obtain ⟨ps, hv, _⟩ := h
  have ht : Lib.TabIs Tryz.prog W "math/bits.deBruijn64tab" .u8 [0, 1, 56, 2, 57, 49, 28, 3, 61, 58, 42, 50, 38, 29, 17, 4, 62, 47, 59, 36, 45, 43, 51, 22, 53, 39, 33, 30, 24, 18, 12, 5, 63, 55, 48, 27, 60, 41, 37, 16, 46, 35, 44, 21, 52, 32, 23, 11, 54, 26, 40, 15, 34, 20, 31, 10, 25, 14, 19, 9, 13, 8, 7, 6] :=
    tab_of_list (g := 3) (t := 249) (e := 5) (n := 64) (by kernel_rfl) (by kernel_rfl) Tryz.underlying249 Tryz.underlying5 (by kernel_rfl) (by kernel_rfl) _ ps hv (.tail _ (.head _))
  exact ht.cell (by kernel_rfl) 15 (by decide)

set_option maxRecDepth 100000 in
/-- What the walk gives, for every argument and every world that holds the tables. -/
theorem contract (H : Type) (enc : TypeId × Value → H) (W : World) (base : Nat) (args : Array Value) (ds gs : List (DataW H)) (before : List MemPlace)
    (hval : ∀ (j : Nat) t v, Tryz.f4.params[j]? = some t → args[j]? = some v → Value.okWide Tryz.prog W .any base t v)
    (hW : DataW.Whole enc Tryz.prog Tryz.f4.params.toList Rows.symbolsOrderSpec.vars false W args.toList ds gs before) (_hL : laidMetH Tryz.prog Rows.symbolsOrderRow.laid W) :
    Calls Tryz.prog 4 args W fun e W' => ∃ v, e = .returned v ∧ Rows.symbolsOrderSpec.post enc Tryz.prog Tryz.f4 false true false false W args v W' := by
  have hW' := hW
  obtain ⟨p, q, hA0, hV, rfl, hfz, hnd⟩ := hW
  have hA : DataW.TrodAll enc Tryz.prog W 0 (fun _ => true) true Tryz.f4.params.toList args.toList ds p := hA0
  rw [Tryz.params4] at hA hval
  obtain ⟨v0, vs0, d0, ds0, p0, q0, hargs, rfl, rfl, h0, r0⟩ := trodAll_cons hA
  obtain ⟨rfl, rfl, rfl⟩ := trodAll_nil r0
  obtain rfl : args = #[v0] := by cases args; simp_all
  obtain ⟨rfl, rfl⟩ := trodVars_none hV
  have k0 := h0
  have lt0 : ∀ x ∈ p0, x.block < W.heap.size := by obtain ⟨m, hm⟩ := k0; exact DataW.trod_lt m _ _ _ hm
  obtain ⟨L0, hr0⟩ := open_dfns (hval 0 22 v0 rfl rfl) h0
  refine (lawSOrder v0 L0 W hr0).mono fun e W' ⟨he, bel⟩ => ?_
  subst he
  exact ⟨_, rfl, _, _, _, [], _, [], hW', trodAll_mk1 (shut_bool Tryz.underlying4 _), (trodAll_cons_mk (Below.trod laidOut (by kernel_rfl) (of_decide_eq_true (by kernel_rfl)) k0 bel lt0) trodAll_mk0), rfl, bel.frame _, fun h => by cases h⟩

/-- A world for the witness: the settled one, the tables holding what their initialisers lay. -/
noncomputable def laidWorld (os : Os) : World :=
  { World.holding Tryz.prog os ⟨#[], #[], []⟩ with heap := ((((World.holding Tryz.prog os ⟨#[], #[], []⟩).heap.modify 2 fun
      | .cells _ t frozen => .cells #[.int .u8 0, .int .u8 1, .int .u8 28, .int .u8 2, .int .u8 29, .int .u8 14, .int .u8 24, .int .u8 3, .int .u8 30, .int .u8 22, .int .u8 20, .int .u8 15, .int .u8 25, .int .u8 17, .int .u8 4, .int .u8 8, .int .u8 31, .int .u8 27, .int .u8 13, .int .u8 23, .int .u8 21, .int .u8 19, .int .u8 16, .int .u8 7, .int .u8 26, .int .u8 12, .int .u8 18, .int .u8 6, .int .u8 11, .int .u8 5, .int .u8 10, .int .u8 9] t frozen
      | o => o).modify 3 fun
      | .cells _ t frozen => .cells #[.int .u8 0, .int .u8 1, .int .u8 56, .int .u8 2, .int .u8 57, .int .u8 49, .int .u8 28, .int .u8 3, .int .u8 61, .int .u8 58, .int .u8 42, .int .u8 50, .int .u8 38, .int .u8 29, .int .u8 17, .int .u8 4, .int .u8 62, .int .u8 47, .int .u8 59, .int .u8 36, .int .u8 45, .int .u8 43, .int .u8 51, .int .u8 22, .int .u8 53, .int .u8 39, .int .u8 33, .int .u8 30, .int .u8 24, .int .u8 18, .int .u8 12, .int .u8 5, .int .u8 63, .int .u8 55, .int .u8 48, .int .u8 27, .int .u8 60, .int .u8 41, .int .u8 37, .int .u8 16, .int .u8 46, .int .u8 35, .int .u8 44, .int .u8 21, .int .u8 52, .int .u8 32, .int .u8 23, .int .u8 11, .int .u8 54, .int .u8 26, .int .u8 40, .int .u8 15, .int .u8 34, .int .u8 20, .int .u8 31, .int .u8 10, .int .u8 25, .int .u8 14, .int .u8 19, .int .u8 9, .int .u8 13, .int .u8 8, .int .u8 7, .int .u8 6] t frozen
      | o => o).modify 1 fun
      | .cells _ t frozen => .cells #[.int .u64 1, .int .u64 10, .int .u64 100, .int .u64 1000, .int .u64 10000, .int .u64 100000, .int .u64 1000000, .int .u64 10000000, .int .u64 100000000, .int .u64 1000000000, .int .u64 10000000000, .int .u64 100000000000, .int .u64 1000000000000, .int .u64 10000000000000, .int .u64 100000000000000, .int .u64 1000000000000000, .int .u64 10000000000000000, .int .u64 100000000000000000, .int .u64 1000000000000000000, .int .u64 10000000000000000000] t frozen
      | o => o) }
theorem laid_met (os : Os) : laidMet Tryz.prog Rows.symbolsOrderRow.laid ((laidWorld os).forCall (fun _ _ => 0) ⟨#[], #[Value.slice none 0 0], []⟩).memory :=
  laidMet_of_run' 8 (by kernel_rfl) (by kernel_rfl)
theorem reads (os : Os) {H : Type} (enc : TypeId × Value → H) : ∃ places, DataW.whole enc Tryz.prog ((laidWorld os).forCall (fun _ _ => 0) ⟨#[], #[Value.slice none 0 0], []⟩).memory Tryz.f4.params.toList Rows.symbolsOrderSpec.vars false (#[Value.slice none 0 0] : Array Value).toList 8 = some ([.nil], [], places) :=
  ⟨[], by kernel_rfl⟩

set_option maxRecDepth 100000 in
theorem lifted (os : Os) (started : os.Started) (H : Type) (enc : TypeId × Value → H) (F : Stop.Interp) :
    ReturnsInHanded {} Tryz.checked os 4 .any ((OpenSpec.ofChange Rows.symbolsOrderSpec).preRow enc Tryz.prog Tryz.f4 Rows.symbolsOrderRow.domain false Rows.symbolsOrderRow.laid) (((OpenSpec.ofChange Rows.symbolsOrderSpec).at F).post enc Tryz.prog Tryz.f4 false true false false) := by
  obtain ⟨places, hx⟩ := reads os enc
  refine returnsInHanded_of_row (C := Tryz.checked) (s := OpenSpec.ofChange Rows.symbolsOrderSpec) own started (by kernel_rfl) Tryz.func4
    (witness_row_at (enc := enc) (C := Tryz.checked) false (laidWorld os) #[Value.slice none 0 0] rfl (by kernel_rfl) (by kernel_rfl) (by kernel_rfl)
      (OpenSpec.preRow_of_cond 8 hx (by kernel_rfl) (fun k hk => by cases hk) (by kernel_rfl) (laid_met os))) ?_
  intro W base args ds gs before hval hW _ _ _ hL _ _
  exact contract H enc W base args ds gs before hval hW hL

theorem said : Rows.SymbolsOrderSaid :=
  OpenClaim.holds_of_cond 4 Tryz.f4 rfl rfl rfl rfl rfl rfl rfl ⟨rfl, rfl, rfl, rfl, rfl⟩ rfl rfl rfl rfl rfl (by kernel_rfl) Tryz.func4 (by kernel_rfl)
    (of_decide_eq_true (by kernel_rfl)) (by unfold Func.isWrapper; first | (rw [if_pos (by decide +kernel)]; kernel_rfl) | (rw [if_neg (by decide +kernel)]; exact ⟨rfl, rfl⟩))
    (fun os started H enc _ F => by rw [OpenClaim.pre_eq_preRow]; exact lifted os started H enc F)

/-- No parameter wants a stand-in; the program's own looks are off. -/
theorem plain (f : FuncId) (fn : Func) (hf : Tryz.pinned.checked.prog.funcNamed "breadboard/breadboardlaw20.SymbolsOrder" = some f) (hfn : Tryz.pinned.checked.prog.funcs[f]? = some fn) :
    true = Tryz.pinned.checked.prog.looks [] ∧ ∀ (j : Nat) t, fn.params[j]? = some t → Tryz.pinned.checked.prog.wantsStandIn t = false := by
  obtain rfl : f = 4 := Option.some.inj ((show Tryz.prog.funcNamed "breadboard/breadboardlaw20.SymbolsOrder" = some 4 by kernel_rfl).symm.trans hf) |>.symm
  obtain rfl : fn = Tryz.f4 := (Option.some.inj (Tryz.func4.symm.trans hfn)).symm
  refine ⟨by kernel_rfl, fun j t ht => ?_⟩
  rw [Tryz.params4] at ht
  have hm : t ∈ [22] := by simpa using Array.mem_of_getElem? ht
  have hall : ([22].all fun u => !Tryz.prog.wantsStandIn u) = true := by kernel_rfl
  exact (show Tryz.prog.wantsStandIn t = false by simpa using List.all_eq_true.1 hall t hm)

/-- The card. -/
theorem proved : Rows.SymbolsOrderCardSaid :=
  Claim7.holds_tied_plain_at .later [] _ _ _ _ said (fun _ h => by cases h) (by kernel_rfl) (fun _ h => by cases h) symbolsOrder_row_tie rfl ⟨rfl, rfl⟩ (by kernel_rfl) rfl plain (by kernel_rfl)
end Go.Proofs.YtnjpfhihbjihbaaGreatDoor.lawSymbolsOrder
