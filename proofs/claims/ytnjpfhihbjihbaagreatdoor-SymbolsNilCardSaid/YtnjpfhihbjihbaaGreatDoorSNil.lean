/- The statement SymbolsNil of chapter 20: proved for every input; no condition beyond the statement's own. -/
import Derived.Test.YtnjpfhihbjihbaaGreatDoorCards
import Derived.Test.YtnjpfhihbjihbaaGreatDoorIter
import Derived.Test.YtnjpfhihbjihbaaGreatDoorS10
import Derived.Test.YtnjpfhihbjihbaaGreatDoorS19
import Derived.Test.YtnjpfhihbjihbaaGreatDoorS27
import Derived.Test.YtnjpfhihbjihbaaGreatDoorS30
import Derived.Test.YtnjpfhihbjihbaaGreatDoorS31
import Derived.Test.YtnjpfhihbjihbaaGreatDoorS36
import Derived.Test.YtnjpfhihbjihbaaGreatDoorS37
import Derived.Test.YtnjpfhihbjihbaaGreatDoorS39
import Derived.Test.YtnjpfhihbjihbaaGreatDoorTie
import Derived.Deep.DeepHandedRow
import Derived.Lib.LaidTab
import Derived.Lib.SmallJoins
import Derived.Maps.Own
import Derived.OpenShut
import Derived.ProofKit
import Derived.ShutString
import Derived.Sort.KeysCollected
import Derived.StringKeys
/- (*symbols.Table).Names; the sorted keys of a map. -/
namespace Go.Proofs.YtnjpfhihbjihbaaGreatDoor
open Go.RowKit Go.Sort

open Go.ChangeMaps Go.Maps
theorem own_base {w : World} {b b' : Nat} {e : TypeId} {size : Nat} {v : Value} {n : Nat} {xs : List Value} (h : w.ownsRow b e size v n xs) (hb : b' ≤ b) : w.ownsRow b' e size v n xs := by
  obtain ⟨h1, h2⟩ := h
  refine ⟨h1, ?_⟩
  rcases h2 with h2 | ⟨g, cap, cur, a1, a2, a3⟩
  · exact .inl h2
  · exact .inr ⟨g, cap, cur, a1, Nat.le_trans hb a2, a3⟩
/-- How a value reads here: as nothing. -/
def noRead : Value → Option (DataW Unit × List MemPlace) := fun _ => some (.nil, [])
theorem SMap.own {P : Program} {K : TypeId} (hk : P.underlying K = some .string) {w : World} {b : Nat} {l : List (ByteArray × Value)} (h : SMap w b l) (hl : l.length ≤ maxLen) (hs : ∀ x ∈ l, x.1.size ≤ maxLen) :
    ∃ D : DataW Unit, w.ownsMap P K noRead b l.length D ∧ Maps.size D = l.length ∧ (strKeys D).Perm (l.map fun x => x.1.data.toList) := by
  obtain ⟨es, c, hb, he, hst⟩ := h
  have hlen : es.size = l.length := by
    have := congrArg List.length he
    simpa using this
  have hkey : ∀ x ∈ es.toList, ∃ y ∈ l, x.key = .string y.1 := fun x hx => by
    have h1 : ekv x ∈ es.toList.map ekv := List.mem_map_of_mem hx
    rw [he] at h1
    obtain ⟨y, hy, e⟩ := List.mem_map.1 h1
    exact ⟨y, hy, (congrArg Prod.fst e).symm⟩
  have hrd : ∀ x ∈ es.toList, ∃ y ∈ l, x.key = .string y.1 ∧ Go.WideElems.rd P K noRead x = some (.string y.1.data.toList, .nil) := fun x hx => by
    obtain ⟨y, hy, e⟩ := hkey x hx
    refine ⟨y, hy, e, ?_⟩
    unfold Go.WideElems.rd
    rw [e, Go.WideMaps.keyOf_string_mk hk (hs y hy)]
    rfl
  refine ⟨.map ((es.toList.map (Go.WideElems.rg P K noRead)).foldr DataW.insert []), ⟨es, c, hb, ⟨by rw [hlen]; exact hl, hst, fun x hx => by obtain ⟨y, _, _, h⟩ := hrd x hx; exact ⟨_, h⟩⟩, by omega, rfl⟩, ?_, ?_⟩
  · rw [size_eq, (Go.WideShapes.sorted_perm _).length_eq, List.length_map, Array.length_toList, hlen]
  · have hp := (Go.WideShapes.sorted_perm (es.toList.map (Go.WideElems.rg P K noRead))).map (fun p : Lit × DataW Unit => strOf p.1)
    refine hp.trans (List.Perm.of_eq ?_)
    have hl2 : l.map (fun x => x.1.data.toList) = (es.toList.map ekv).map fun p => strOf (match p.1 with | .string s => .string s.data.toList | _ => .bool false) := by
      rw [he, List.map_map]
      rfl
    rw [hl2, List.map_map, List.map_map]
    refine List.map_congr_left fun x hx => ?_
    obtain ⟨y, _, e, h⟩ := hrd x hx
    simp only [Function.comp_apply, Go.WideElems.rg, h, Option.getD_some, e]
/-- The names of a table, in order. -/
def sortL (l : List (List UInt8)) : List (List UInt8) := l.mergeSort fun x y => decide (x ≤ y)
theorem sortL_perm {l m : List (List UInt8)} (h : l.Perm m) : sortL l = sortL m := mergeSort_of_perm h
theorem sortL_mem (l : List (List UInt8)) (x : List UInt8) : x ∈ sortL l ↔ x ∈ l := List.mem_mergeSort
theorem sortL_len (l : List (List UInt8)) : (sortL l).length = l.length := List.length_mergeSort _
/-- What Names leaves. -/
def NmRes (ns : List (List UInt8)) (w : World) (e : Ending) (w' : World) : Prop := ∃ v, e = .returned v ∧ w'.ownsRow w.heap.size 9 1 v (sortL ns).length ((sortL ns).map Proofs.encStr) ∧ (v = .slice none 0 0 ↔ sortL ns = []) ∧ Below w.heap.size w w'
set_option maxHeartbeats 1000000 in
theorem namesT_nil (w : World) : Calls Tryz.prog 22 #[.pointer none] w fun e w' => e = .returned (.slice none 0 0) ∧ Below w.heap.size w w' := by
  go_enter Tryz.func22, Tryz.ntmps22
  go_wp2_with fail
  go_ret
  exact ⟨rfl, by (repeat (first | exact Below.refl _ _ | refine Below.drew ?_ | (refine below_gw' ?_ (by first | omega | (simp [go_sem]; done) | (simp [go_sem]; omega)) _) | (refine Below.alloc ?_ (by first | omega | (simp [go_sem]; done) | (simp [go_sem]; omega)) _) | (refine Below.setCell ?_ (by first | omega | (simp [go_sem]; done) | (simp [go_sem]; omega)) _)))⟩
set_option maxHeartbeats 1000000 in
theorem namesT_any (g b : Nat) (M : List (Sy × Value)) (hM : M.length ≤ 1000) (hs : ∀ x ∈ M, x.1.name.size ≤ 1000) (w : World) (hT : TabIn w g b M) :
    Calls Tryz.prog 22 #[.pointer (some ⟨g, 0, none⟩)] w (NmRes (M.map fun x => x.1.name.data.toList) w) := by
  have c1 := hT.cell
  have hg : g < w.heap.size := lt_of_block hT.head
  obtain ⟨D, hown, hsz, hperm⟩ := hT.map.own (P := Tryz.prog) Tryz.underlying9 (by rw [List.length_map]; unfold maxLen; omega) (fun x hx => by obtain ⟨y, hy, rfl⟩ := List.mem_map.1 hx; have := hs y hy; show y.1.name.size ≤ _; unfold maxLen; omega)
  rw [List.length_map] at hsz
  have hkeys := fun w => callsIn_wide.1 (Tryz.maps_Keys_51 (some b) w)
  have hsort := callsIn_wide.1 (Tryz.slices_Sorted_keys_50_51 b _ D noRead w hown (by rw [hsz]; unfold maxLen; omega) (by rw [hsz]; omega))
  have hp2 : sortL (strKeys D) = sortL (M.map fun x => x.1.name.data.toList) := by
    refine sortL_perm (hperm.trans (List.Perm.of_eq ?_))
    rw [List.map_map]; rfl
  have HP := Lib.hid hp2
  have HK := Lib.hid hkeys
  have HS := Lib.hid hsort
  clear hkeys hsort hp2 hperm hown hsz hT
  go_enter Tryz.func22, Tryz.ntmps22
  go_wp2_with fail
  (with_reducible refine (HK.out _).mono ?_)
  rintro e w1 ⟨rfl, rfl⟩
  go_wp2_with fail
  (with_reducible refine HS.out.mono ?_)
  rintro e w2 ⟨v, ss, rfl, hperm, hrow, hnil, hb⟩
  have hss : sortL ss = sortL (M.map fun x => x.1.name.data.toList) := by rw [← HP.out]; exact sortL_perm hperm
  have HSS := Lib.hid hss
  have HROW := Lib.hid hrow
  have HNIL := Lib.hid hnil
  have HB : Hid (Below w.heap.size w w2) := Lib.hid (Below.trans (b := w.alloc (.cells #[.map (some b)] 103)) (by (repeat (first | exact Below.refl _ _ | refine Below.drew ?_ | (refine below_gw' ?_ (by first | omega | (simp [go_sem]; done) | (simp [go_sem]; omega)) _) | (refine Below.alloc ?_ (by first | omega | (simp [go_sem]; done) | (simp [go_sem]; omega)) _) | (refine Below.setCell ?_ (by first | omega | (simp [go_sem]; done) | (simp [go_sem]; omega)) _)))) (hb.mono (by show _ ≤ (w.heap.push _).size; simp)))
  clear hss hrow hnil hb hperm
  go_wp2_with fail
  go_ret
  refine ⟨v, rfl, ?_, ?_, HB.out⟩
  · rw [← HSS.out, sortL_len]
    exact own_base HROW.out (by show _ ≤ (w.heap.push _).size; simp)
  · rw [HNIL.out, ← HSS.out]
    constructor
    · rintro rfl; exact List.eq_nil_of_length_eq_zero (sortL_len [])
    · intro h
      have := sortL_len ss
      rw [h] at this
      exact List.eq_nil_of_length_eq_zero (by simpa using this.symm)
end Go.Proofs.YtnjpfhihbjihbaaGreatDoor

/- slices.Equal at equal rows of strings; append onto a row of one's own, the source a row that may be nil. -/
namespace Go.Proofs.YtnjpfhihbjihbaaGreatDoor
open Go.RowKit Go.Sort

theorem equalRow_any (v1 v2 : Value) (L : List (List UInt8)) (w : World) (h1 : Row w v1 L.length (L.map Proofs.encStr)) (h2 : Row w v2 L.length (L.map Proofs.encStr)) (hl : L.length ≤ 1000000) :
    Calls Tryz.prog 21 #[v1, v2] w fun e w' => e = .returned (.bool true) ∧ Below w.heap.size w w' := by
  obtain ⟨a1, c1, rfl, hc1, h1⟩ := h1
  obtain ⟨a2, c2, rfl, hc2, h2⟩ := h2
  rcases hL : L with _ | ⟨x, l⟩
  · refine (Tryz.slices_Equal_string_empty a1 a2 c1 0 c2 w (by decide)).mono ?_
    rintro e w' ⟨he, rfl⟩
    exact ⟨by rw [he]; rfl, Below.refl _ _⟩
  · rw [← hL]
    have hne : L.map Proofs.encStr ≠ [] := by rw [hL]; simp
    obtain ⟨g1, o1, rfl, hg1, h1⟩ := h1 hne
    obtain ⟨g2, o2, rfl, hg2, h2⟩ := h2 hne
    have hM : (L.map fun y => (⟨y.toArray⟩ : ByteArray)).length = L.length := by simp
    have hcell : ∀ j, j < (L.map fun y => (⟨y.toArray⟩ : ByteArray)).length → (L.map Proofs.encStr)[j]? = some (.string ((L.map fun y => (⟨y.toArray⟩ : ByteArray)).getD j ByteArray.empty)) := fun j hj => by
      rw [hM] at hj
      simp [List.getD, List.getElem?_eq_getElem hj, Proofs.encStr]
    refine (Tryz.slices_Equal_string g1 o1 L.length c1 g2 o2 L.length c2 _ _ w (by rw [hM]; exact Nat.le_refl _) (by rw [hM]; exact Nat.le_refl _) (by omega) (by omega) (fun j hj => (h1 j (by rw [List.length_map]; rw [hM] at hj; exact hj)).trans (hcell j hj)) (fun j hj => (h2 j (by rw [List.length_map]; rw [hM] at hj; exact hj)).trans (hcell j hj))).mono ?_
    rintro e w' ⟨he, q, hw⟩
    refine ⟨by rw [he, decide_eq_true rfl], ?_⟩
    rw [hw]
    exact below_drewN (Below.refl _ _) _
theorem wpList_append_src {P : Program} {w : World} {ops : Array Oper} {rest : List Oper} {o : Oper} {a : Act} {Q : Exit → Act → World → Prop} (hgd : o.guard = none) (s x : Operand) (t : TypeId)
    (ho : o.op = .call { callee := .builtin .append, args := #[s, x], argTypes := #[t, t] })
    (base : Nat) (e : TypeId) (i : TypeInfo) (z : Value) (size bytes : Nat) (ht : P.underlying t = some (.slice e)) (hi : P.info? e = some i) (hz : i.zero = some z)
    (hsize : i.size = size) (hby : i.bytes = bytes) (hzs : z.cells.size = size) (hsz : 0 < size)
    (v : Value) (n : Nat) (xs : List Value) (hs : a.eval s = v) (hown : w.ownsRow base e size v n xs)
    (v2 : Value) (m : Nat) (news : List Value) (hx : a.eval x = v2) (hsrc : SrcAt w v2 m news) (hl : news.length = m * size) (h1 : ∀ u ∈ news, u.oneCell' = true)
    (h63 : n + m ≤ maxLen) (hbytes : (n + m) * bytes ≤ 140737488355328) (hbase : base ≤ w.heap.size)
    (h : ∀ v' w', w'.ownsRow base e size v' (n + m) (xs ++ news) → w.grownBy w' v.ownBlock → (v' = .slice none 0 0 ↔ v = .slice none 0 0 ∧ m = 0) → wpList P ops Q rest (a.put o.dst v') w') : wpList P ops Q (o :: rest) a w := by
  refine wpList_plain hgd fun _ hK => ?_
  rcases hsrc with ⟨rfl, rfl⟩ | ⟨ad, c, rfl, hc⟩
  · have hn : news = [] := List.eq_nil_of_length_eq_zero (by simpa using hl)
    subst hn
    have hrun := run_append_owned_none (P := P) (w := w) base t o.type e i size ht hi v n xs hown
    unfold Oper.wp
    simp [execOp, ho, resolve, invoke, builtin, hs, hx, hrun, Result.andThen]
    exact hK _ _ (h v w (by simpa using hown) (World.grownBy.refl w _) (by simp))
  · exact wp_append_own w s x t ho base e i z size bytes ht hi hz hsize hby hzs hsz v n xs hs hown ad m c news hx hl hc h1 h63 hbytes hbase fun v' w' h2 h3 h4 => hK _ _ (h v' w' h2 h3 h4)
end Go.Proofs.YtnjpfhihbjihbaaGreatDoor

/- The walk of the law SymbolsKnown. -/
namespace Go.Proofs.YtnjpfhihbjihbaaGreatDoor
open Go.RowKit Go.Sort

open Go.ChangeMaps
theorem bthen2 {w u v : World} (h : Below w.heap.size w u) (k : Below u.heap.size u v) : Below w.heap.size w v := h.trans (k.mono h.size)
theorem symD_name {d : Dfn} {s : Sy} (h : symD d = some s) : s.name.size ≤ 50 := by
  obtain ⟨ex, rfl⟩ := symD_form h
  unfold symD at h
  split at h
  · rename_i hs; exact hs.1
  · cases h
theorem foldD_names : ∀ (l : List Dfn) (L M : List Sy), (∀ s ∈ L, s.name.size ≤ 50) → foldD L l = some M → ∀ s ∈ M, s.name.size ≤ 50
  | [], L, M, h, hf => by cases hf; exact h
  | d :: l, L, M, h, hf => by
    unfold foldD at hf
    split at hf
    · cases hf
    · rename_i N hN
      refine foldD_names l N M ?_ hf
      unfold stepD at hN
      rcases hd : symD d with _ | s
      · rw [hd] at hN; cases hN
      · rw [hd, Option.map_some, Option.some.injEq] at hN
        split at hN
        · subst hN; exact h
        · subst hN
          intro x hx
          rcases List.mem_append.1 hx with hx | hx
          · exact h x hx
          · rw [List.mem_singleton] at hx; subst hx; exact symD_name hd
theorem tableD_names {l : List Dfn} {L : List Sy} (h : tableD l = some L) : ∀ s ∈ L, s.name.size ≤ 50 := by
  unfold tableD at h
  split at h
  · cases h
  · exact foldD_names l [] L (fun s hs => by cases hs) h
theorem enc_self (s : ByteArray) : Proofs.encStr s.data.toList = .string s := by
  show Value.string ⟨s.data.toList.toArray⟩ = .string s
  simp
/-- What the tables give. -/
structure Tabs20P (w : World) (g b : Nat) (rv : Value) (L : List Sy) (M R : List (Sy × Value)) : Prop where
  ti : TabIn w g b M
  hm : M.map Prod.fst = L.map Sy.norm
  rt : RTab w rv R
  hr : R.map Prod.fst = L
  okM : ∀ y ∈ M, SyOk y.1
  okR : ∀ y ∈ R, SyOk y.1
  ndR : ((R.map Prod.fst).map Sy.name).Nodup
  lenR : R.length ≤ 1000
  lenM : M.length ≤ 1000
  nmM : ∀ y ∈ M, y.1.name.size ≤ 1000
  nmsM : (M.map fun x => x.1.name.data.toList) = L.map fun s => s.name.data.toList
theorem Tabs20.parts {w : World} {g b : Nat} {rv : Value} {l : List Dfn} {L : List Sy} (h : Tabs20 w g b rv L) (hL : tableD l = some L) : ∃ M R, Tabs20P w g b rv L M R := by
  obtain ⟨M, R, hTI, hM, hRT, hR0, hnil⟩ := h
  have htab := tableD_ok hL
  have hnm := tableD_names hL
  have hmem : ∀ y ∈ M, ∃ s ∈ L, y.1 = s.norm := fun y hy => by
    have h1 : y.1 ∈ M.map Prod.fst := List.mem_map_of_mem hy
    rw [hM] at h1
    obtain ⟨s', hs', e⟩ := List.mem_map.1 h1
    exact ⟨s', hs', e.symm⟩
  refine ⟨M, R, hTI, hM, hRT, hR0, fun y hy => ?_, fun y hy => htab.1.ok _ (by rw [← hR0]; exact List.mem_map_of_mem hy), by rw [hR0]; exact htab.1.nodup, ?_, ?_, fun y hy => ?_, ?_⟩
  · obtain ⟨s, hs, e⟩ := hmem y hy
    rw [e]; exact norm_ok (htab.1.ok s hs)
  · have := htab.2
    rw [← hR0, List.length_map] at this
    omega
  · have h1 := congrArg List.length hM
    rw [List.length_map, List.length_map] at h1
    have := htab.2
    omega
  · obtain ⟨s, hs, e⟩ := hmem y hy
    rw [e, norm_name]
    have := hnm s hs
    omega
  · have h1 : (M.map fun x => x.1.name.data.toList) = (M.map Prod.fst).map fun s => s.name.data.toList := by rw [List.map_map]; rfl
    rw [h1, hM, List.map_map]
    exact List.map_congr_left fun s _ => by simp only [Function.comp_apply, norm_name]
theorem Tabs20P.below {w w' : World} {g b : Nat} {rv : Value} {L : List Sy} {M R : List (Sy × Value)} (h : Tabs20P w g b rv L M R) (hb : Below w.heap.size w w') : Tabs20P w' g b rv L M R :=
  ⟨h.ti.below hb, h.hm, h.rt.below hb, h.hr, h.okM, h.okR, h.ndR, h.lenR, h.lenM, h.nmM, h.nmsM⟩
theorem Tabs20P.known {w : World} {g b : Nat} {rv : Value} {L : List Sy} {M R : List (Sy × Value)} (h : Tabs20P w g b rv L M R) :
    Calls Tryz.prog 19 #[.pointer (some ⟨g, 0, none⟩)] w fun e w' => ∃ m, e = .returned m ∧ KnMap w' L m ∧ Below w.heap.size w w' :=
  (known_any g b M h.okM w h.ti).mono fun e w' ⟨m, h1, h2, h3⟩ => ⟨m, h1, by
    obtain ⟨bo, lO, q1, q2, q3⟩ := h2
    refine ⟨bo, lO, q1, q2, fun t => ?_⟩
    rw [q3, h.hm, norm_Kn], h3⟩
theorem Tabs20P.rknown {w : World} {g b : Nat} {rv : Value} {L : List Sy} {M R : List (Sy × Value)} (h : Tabs20P w g b rv L M R) :
    Calls Tryz.prog 15 #[rv] w fun e w' => ∃ vo, e = .returned vo ∧ Row w' vo (knownR L).length (valc (knownR L)) ∧ Below w.heap.size w w' := by
  have := known20_any R rv w h.rt h.lenR h.okR h.ndR
  rw [h.hr] at this
  exact this
theorem Tabs20P.same {w : World} {g b : Nat} {rv : Value} {L : List Sy} {M R : List (Sy × Value)} (h : Tabs20P w g b rv L M R) (m v : Value) (w' : World) (hm : KnMap w' L m) (hr : Row w' v (knownR L).length (valc (knownR L))) :
    Calls Tryz.prog 18 #[m, v] w' fun e w'' => e = .returned (.bool true) ∧ Below w'.heap.size w' w'' := by
  have hn : (L.map Sy.name).Nodup := by rw [← h.hr]; exact h.ndR
  refine same20_any L (knownR L) (knownR_env hn) (knownR_nodup hn) (Nat.le_trans (knownR_len hn) ?_) m v w' hm hr
  have := h.lenR
  rw [← h.hr, List.length_map]; omega
theorem Tabs20P.names {w : World} {g b : Nat} {rv : Value} {L : List Sy} {M R : List (Sy × Value)} (h : Tabs20P w g b rv L M R) :
    Calls Tryz.prog 22 #[.pointer (some ⟨g, 0, none⟩)] w (NmRes (L.map fun s => s.name.data.toList) w) := by
  rw [← h.nmsM]
  exact namesT_any g b M h.lenM h.nmM w h.ti
set_option maxHeartbeats 4000000 in
set_option maxRecDepth 100000 in
theorem lawSKnown (v : Value) (l : List Dfn) (w : World) (h0 : Row w v l.length (l.flatMap dfnc) ∧ l.length ≤ maxLen ∧ ∀ d ∈ l, d.name.size ≤ maxLen ∧ d.text.size ≤ maxLen) :
    Calls Tryz.prog 5 #[v] w fun e w' => e = .returned (.bool true) ∧ Below w.heap.size w w' := by
  obtain ⟨i0, hi, hz0, hz1, hz2⟩ := info_parts Tryz.infoString
  have hbu := build_any l v w h0.1 h0.2.1 h0.2.2
  unfold BuildRes at hbu
  have HBU := Lib.hid hbu
  clear hbu h0
  go_enter Tryz.func5, Tryz.ntmps5
  go_wp2_with fail
  (with_reducible refine HBU.out.mono ?_)
  rintro e w2 ⟨hb2, hres⟩
  have HBW := Lib.hid hb2
  clear hb2
  rcases hres with ⟨_, rfl⟩ | ⟨L, g, b, rv, hL, rfl, htabs, _⟩
  · go_wp2_with fail
    (with_reducible refine (alive20 _).mono ?_)
    rintro e w4 ⟨rfl, hb4⟩
    have HB4 := Lib.hid hb4; clear hb4
    go_wp2_with fail
    go_ret
    exact ⟨rfl, bthen2 HBW.out HB4.out⟩
  · obtain ⟨M, R, hp⟩ := htabs.parts hL
    have HP := Lib.hid hp
    obtain ⟨a, cap, rfl, hcap, hc⟩ := hp.rt.parts
    have hlenR := hp.lenR
    have hl1 : (R.length : Int) ≤ 1000 := by omega
    have hc1 : (R.length : Int) ≤ (cap : Int) := by omega
    have HC := Lib.hid hc
    obtain ⟨ns, hns⟩ : ∃ ns, (L.map fun s => s.name.data.toList) = ns := ⟨_, rfl⟩
    have hnl : ns.length = R.length := by rw [← hns, ← hp.hr]; simp
    have HNS : Hid (∀ (k : Nat) (x : Sy × Value), R[k]? = some x → ns[k]? = some x.1.name.data.toList) := Lib.hid fun k x hx => by
      rw [← hns, ← hp.hr, List.getElem?_map, List.getElem?_map, hx]; rfl
    have HNAM : Hid (∀ w', Below w2.heap.size w2 w' → Calls Tryz.prog 22 #[.pointer (some ⟨g, 0, none⟩)] w' (NmRes ns w')) := Lib.hid fun w' hb => by rw [← hns]; exact (hp.below hb).names
    have HNL := Lib.hid hnl
    clear hc htabs hL hp hns hnl
    go_wp2_with fail
    go_loopw [6, 23] (fun u i wr => ∃ k : Nat, k ≤ R.length ∧ i = .int .i64 k ∧ wr.ownsRow w2.heap.size 9 1 u k ((ns.take k).map Proofs.encStr) ∧ (k = 0 → u = .slice none 0 0) ∧ Below w2.heap.size w2 wr) (fun _ i _ => R.length - (intOf i).toNat)
    case atStart => exact ⟨0, Nat.zero_le _, rfl, World.ownsRow_nil _ _ _ _, fun _ => rfl, Below.refl _ _⟩
    case round =>
      obtain ⟨k, hk, rfl, hown, hnil, hbel⟩ := hrel
      have HOWN := Lib.hid hown
      have HBEL := Lib.hid hbel
      have HNIL := Lib.hid hnil
      have hszr : w2.heap.size ≤ wr.heap.size := hbel.size
      clear hown hbel hnil
      by_cases hlt : k < R.length
      · obtain ⟨x, hx⟩ : ∃ x, R[k]? = some x := ⟨_, List.getElem?_eq_getElem hlt⟩
        obtain ⟨gr, o, rfl, hgr, hcs⟩ := HC.out (by rintro rfl; simp at hx)
        obtain ⟨e0, e1, e2, e3, e4⟩ := hcs k x hx
        have hb := HBEL.out
        have f0 := (hb.cell (p := ⟨gr, o + k * 5, none⟩) hgr).trans e0
        have f1 := (hb.cell (p := ⟨gr, o + k * 5 + 1, none⟩) hgr).trans e1
        have f2 := (hb.cell (p := ⟨gr, o + k * 5 + 2, none⟩) hgr).trans e2
        have f3 := (hb.cell (p := ⟨gr, o + k * 5 + 3, none⟩) hgr).trans e3
        have f4 := (hb.cell (p := ⟨gr, o + k * 5 + 4, none⟩) hgr).trans e4
        have hnk := HNS.out k x hx
        obtain ⟨px, hpx⟩ := (HP.out.rt.2 x (List.mem_of_getElem? hx)).ptr
        obtain ⟨⟨name, n, ex, here, line⟩, xv⟩ := x
        dsimp only at *
        subst hpx
        have HS : Hid (ns.take (k + 1) = ns.take k ++ [name.data.toList]) := Lib.hid (by rw [List.take_add_one, hnk]; rfl)
        have hi0 : (0 : Int) ≤ (k : Int) := by omega
        have hi1 : (k : Int) < (R.length : Int) := by omega
        clear hcs e0 e1 e2 e3 e4 hb hx hnk
        go_wp2_with (at_builtin; refine wpList_append_own _ rfl _ _ 45 rfl w2.heap.size 9 i0 (.string ⟨#[]⟩) 1 16 Tryz.underlying45 hi hz0 hz1 hz2 rfl (by decide) _ _ _ rfl (owns_below' HOWN.out (by (repeat (first | exact Below.refl _ _ | refine Below.drew ?_ | (refine below_gw' ?_ (by first | omega | (simp [go_sem]; done) | (simp [go_sem]; omega)) _) | (refine Below.alloc ?_ (by first | omega | (simp [go_sem]; done) | (simp [go_sem]; omega)) _) | (refine Below.setCell ?_ (by first | omega | (simp [go_sem]; done) | (simp [go_sem]; omega)) _))))) _ 1 1 [.string name] rfl rfl ?d1 ?d2 ?d3 ?d4 ?d5 ?_)
        case d1 =>
          intro q u hq
          rw [addr_add]
          match q, hq with
          | 0, hq => simp at hq; subst hq; simp [go_sem]
        case d2 => first | exact ⟨rfl⟩ | (intro u hu; simp at hu; rcases hu with rfl; rfl) | rfl
        case d3 => unfold maxLen; omega
        case d4 => omega
        case d5 => (first | omega | (simp [go_sem]; done) | (simp [go_sem]; omega))
        intro v' w3 hown' hgrow hnil'
        have hb' : Below w2.heap.size w2 w3 := (HBEL.out.trans (Below.mono (show Below wr.heap.size wr _ by (repeat (first | exact Below.refl _ _ | refine Below.drew ?_ | (refine below_gw' ?_ (by first | omega | (simp [go_sem]; done) | (simp [go_sem]; omega)) _) | (refine Below.alloc ?_ (by first | omega | (simp [go_sem]; done) | (simp [go_sem]; omega)) _) | (refine Below.setCell ?_ (by first | omega | (simp [go_sem]; done) | (simp [go_sem]; omega)) _)))) hszr)).grown hgrow (by (first | omega | (simp [go_sem]; done) | (simp [go_sem]; omega))) (own_low HOWN.out)
        have HOWN3 := Lib.hid hown'; clear hown'
        have HB' := Lib.hid hb'; clear hb' hgrow hnil'
        go_wp2_with fail
        go_roundw
        case rel => exact ⟨k + 1, by omega, by go_num, by rw [HS.out, List.map_append, List.map_take]; have := HOWN3.out; rw [← enc_self name] at this; exact this, fun h => by omega, HB'.out⟩
        case measure => simp [intOf]; omega
      · obtain rfl : k = R.length := by omega
        have hown := HOWN.out
        rw [← HNL.out, List.take_length] at hown
        have hn0 : ns = [] → u6 = .slice none 0 0 := fun h => HNIL.out (by rw [← HNL.out, h]; rfl)
        have hso := sort_any w2.heap.size u6 ns wr hown hn0 (by rw [HNL.out]; omega) hszr
        have HSO := Lib.hid hso
        have HN0 := Lib.hid hn0
        clear hso hown hn0
        go_wp2_with fail
        (with_reducible refine HSO.out.mono ?_)
        rintro e w3 ⟨rfl, hown3, hb3⟩
        have HR3 := Lib.hid (Row.of_owns hown3)
        have HB3 : Hid (Below w2.heap.size w2 w3) := Lib.hid (HBEL.out.trans hb3)
        clear hown3 hb3
        go_wp2_with fail
        (with_reducible refine (alive20 _).mono ?_)
        rintro e w4 ⟨rfl, hb4⟩
        have HR4 := Lib.hid (HR3.out.below hb4)
        have HB4 : Hid (Below w2.heap.size w2 w4) := Lib.hid (bthen2 HB3.out hb4)
        clear hb4
        go_wp2_with fail
        (with_reducible refine (HP.out.below HB4.out).known.mono ?_)
        rintro e w5 ⟨m, rfl, hm5, hb5⟩
        have HR5 := Lib.hid (HR4.out.below hb5)
        have HB5 : Hid (Below w2.heap.size w2 w5) := Lib.hid (bthen2 HB4.out hb5)
        have HM5 := Lib.hid hm5
        clear hb5 hm5
        go_wp2_with fail
        (with_reducible refine (HP.out.below HB5.out).rknown.mono ?_)
        rintro e w6 ⟨vo, rfl, hr6, hb6⟩
        have HR6 := Lib.hid (HR5.out.below hb6)
        have HB6 : Hid (Below w2.heap.size w2 w6) := Lib.hid (bthen2 HB5.out hb6)
        have HM6 := Lib.hid (HM5.out.below hb6)
        have HV6 := Lib.hid hr6
        clear hb6 hr6
        go_wp2_with fail
        (with_reducible refine (HP.out.same _ _ _ HM6.out HV6.out).mono ?_)
        rintro e w7 ⟨rfl, hb7⟩
        have HR7 := Lib.hid (HR6.out.below hb7)
        have HB7 : Hid (Below w2.heap.size w2 w7) := Lib.hid (bthen2 HB6.out hb7)
        clear hb7
        go_wp2_with fail
        (with_reducible refine (HNAM.out _ HB7.out).mono ?_)
        rintro e w8 ⟨vn, rfl, hrow8, _, hb8⟩
        have HR8 := Lib.hid (HR7.out.below hb8)
        have HB8 : Hid (Below w2.heap.size w2 w8) := Lib.hid (bthen2 HB7.out hb8)
        have HN8 := Lib.hid (Row.of_owns hrow8)
        have hr8 : Row w8 u6 (sortL ns).length ((sortL ns).map Proofs.encStr) := by rw [sortL_len]; exact HR8.out
        have HS8 := Lib.hid hr8; clear hr8
        clear hb8 hrow8
        go_wp2_with fail
        (with_reducible refine (equalRow_any _ _ (sortL ns) _ HN8.out HS8.out (by rw [sortL_len, HNL.out]; omega)).mono ?_)
        rintro e w9 ⟨rfl, hb9⟩
        have HB9 : Hid (Below w2.heap.size w2 w9) := Lib.hid (bthen2 HB8.out hb9)
        clear hb9
        go_wp2_with fail
        go_ret
        exact ⟨rfl, bthen2 HBW.out HB9.out⟩
end Go.Proofs.YtnjpfhihbjihbaaGreatDoor

/- The closure of (*symbols.Table).Uses. -/
namespace Go.Proofs.YtnjpfhihbjihbaaGreatDoor
open Go.RowKit Go.Sort

open Go.ChangeMaps
/-- The set O is closed but for A. -/
def UInv (L : List Sy) (A O : ByteArray → Prop) : Prop := ∀ u v, O u → ¬ A u → Dep L u v → O v
/-- The world of the closure. -/
structure UseW (w : World) (ct co cv g b bo : Nat) (M : List (Sy × Value)) (lO : List (ByteArray × Value)) : Prop where
  t : w.cell? ⟨ct, 0, none⟩ = some (.pointer (some ⟨g, 0, none⟩))
  o : w.cell? ⟨co, 0, none⟩ = some (.map (some bo))
  v : w.cell? ⟨cv, 0, none⟩ = some (.func (.func 54) #[] #[.pointer (some ⟨ct, 0, none⟩), .pointer (some ⟨co, 0, none⟩), .pointer (some ⟨cv, 0, none⟩)])
  tab : TabIn w g b M
  om : SMap w bo lO
  sb : ∀ t v, sget lO t = some v → v = .bool true
  n1 : b ≠ bo
theorem UseW.kb {w w' : World} {ct co cv g b bo : Nat} {M : List (Sy × Value)} {lO lO' : List (ByteArray × Value)} (h : UseW w ct co cv g b bo M lO) (hk : Kb bo w w') (hO : SMap w' bo lO') (hs : ∀ t v, sget lO' t = some v → v = .bool true) : UseW w' ct co cv g b bo M lO' :=
  have hc := Ck.of_kb hk h.om
  ⟨hc.cell h.t, hc.cell h.o, hc.cell h.v, h.tab.ck hc (hk.block b h.tab.map.lt h.n1), hO, hs, h.n1⟩
theorem UseW.below {w w' : World} {ct co cv g b bo : Nat} {M : List (Sy × Value)} {lO : List (ByteArray × Value)} (h : UseW w ct co cv g b bo M lO) (hb : Below w.heap.size w w') : UseW w' ct co cv g b bo M lO :=
  h.kb (.of_below hb) (h.om.below hb) h.sb
/-- What the closure leaves. -/
def UsePost (ct co cv g b bo : Nat) (M : List (Sy × Value)) (A : ByteArray → Prop) (lO : List (ByteArray × Value)) (name : ByteArray) (w : World) (e : Ending) (w' : World) : Prop :=
  e = .returned (.tuple #[]) ∧ ∃ lO', UseW w' ct co cv g b bo M lO' ∧ UInv (M.map Prod.fst) A (seenS lO') ∧ (∀ t, seenS lO t → seenS lO' t) ∧ (∀ t, Dep (M.map Prod.fst) name t → seenS lO' t) ∧ (∀ t, seenS lO' t → seenS lO t ∨ Leads (M.map Prod.fst) name t) ∧ Kb bo w w'
theorem argsAt_opt {w : World} {X : Option Ex} {v : Value} {T : TypeId} (h : OptAt 130 w X v) : ArgsAt 130 (w.alloc (.cells #[v] T)) [X] (.slice (some ⟨w.heap.size, 0, none⟩) 1 1) := by
  refine ⟨w.heap.size, 0, 1, rfl, by show _ < (w.heap.push _).size; simp, fun j x hx => ?_⟩
  rcases j with _ | j
  · simp only [List.getElem?_cons_zero, Option.some.injEq] at hx
    subst hx
    refine ⟨v, by rw [cell_at (alloc_at' w _)]; rfl, h.below ((Below.refl _ _).alloc (Nat.le_refl _) _)⟩
  · simp at hx
/-- What holds at the head of the closure's loop. -/
def UseLoop (ct co cv g b bo : Nat) (M : List (Sy × Value)) (A : ByteArray → Prop) (lO : List (ByteArray × Value)) (name : ByteArray) (ns : List (List UInt8)) (w : World) (k : Nat) (wr : World) : Prop :=
  ∃ lO', UseW wr ct co cv g b bo M lO' ∧ UInv (M.map Prod.fst) A (seenS lO') ∧ (∀ t, seenS lO t → seenS lO' t) ∧ (∀ t ∈ ns.take k, (∃ s, sfindS (M.map Prod.fst) ⟨t.toArray⟩ = some s) → seenS lO' ⟨t.toArray⟩) ∧ (∀ t, seenS lO' t → seenS lO t ∨ Leads (M.map Prod.fst) name t) ∧ Kb bo w wr
set_option maxHeartbeats 4000000 in
set_option maxRecDepth 100000 in
theorem use_any (ct co cv g b bo : Nat) (M : List (Sy × Value)) (hok : ∀ x ∈ M, SyOk x.1) : ∀ (n : Nat) (name : ByteArray) (A : ByteArray → Prop) (w : World) (lO : List (ByteArray × Value)), unseen M lO ≤ n → UseW w ct co cv g b bo M lO → UInv (M.map Prod.fst) (fun u => A u ∨ u = name) (seenS lO) →
    Calls Tryz.prog 54 #[.string name, .pointer (some ⟨ct, 0, none⟩), .pointer (some ⟨co, 0, none⟩), .pointer (some ⟨cv, 0, none⟩)] w (UsePost ct co cv g b bo M A lO name w) := by
    intro n
    induction n using Nat.strongRecOn with
    | _ n ih =>
    intro name A w lO hn hw hv
    have HIH := Lib.hid ih; clear ih
    have HN := Lib.hid hn; clear hn
    have c1 := hw.t
    have c2 := hw.tab.cell
    have hg : g < w.heap.size := lt_of_block hw.tab.head
    have hct := cell_lt c1
    have hlk := run_sget (P := Tryz.prog) Tryz.underlying103 Tryz.underlying9 zeroSym hw.tab.map name false
    obtain ⟨X, px, n0, h0, l0, hX, hxo, hdep, hgl⟩ : ∃ (X : Option Ex) (px : Option Addr) (n0 h0 l0 : Int), OptAt 130 w X (.pointer px) ∧ oNodes X ≤ 1000000 ∧ (∀ t, Dep (M.map Prod.fst) name t ↔ (t.data.toList ∈ uniq (lSyms [X]) ∧ ∃ s, sfindS (M.map Prod.fst) t = some s)) ∧ (sget (M.map symP) name).getD (.agg #[.int .i64 0, .pointer none, .int .i64 0, .int .i64 0]) = .agg #[.int .i64 n0, .pointer px, .int .i64 h0, .int .i64 l0] := by
      rcases sget_symP M name with ⟨h1, h2⟩ | ⟨x, hx, h1, h2⟩
      · refine ⟨none, none, 0, 0, 0, rfl, Nat.zero_le _, fun t => ⟨(fun ⟨s, hs, _⟩ => by rw [h2] at hs; cases hs), fun ⟨h, _⟩ => ?_⟩, by rw [h1]; rfl⟩
        rw [mem_uniq] at h
        simp [lSyms, oSyms] at h
      · obtain ⟨px, hpx⟩ := (hw.tab.node x hx).ptr
        have hxn := hw.tab.node x hx
        rw [hpx] at hxn
        refine ⟨x.1.ex, px, x.1.n, x.1.here, x.1.line, hxn, ?_, fun t => ?_, by rw [h1, Option.getD_some]; unfold symV; rw [hpx]⟩
        · rcases he : x.1.ex with _ | y
          · exact Nat.zero_le _
          · exact ((hok x hx).2.2 y he).2
        · constructor
          · rintro ⟨s, hs, hb, hd⟩
            rw [h2] at hs; cases hs
            refine ⟨?_, hd⟩
            unfold Sy.syms at hb
            rcases he : x.1.ex with _ | y
            · rw [he] at hb; cases hb
            · rw [he] at hb; exact (mem_lSyms y t).1 hb
          · rintro ⟨hm, hd⟩
            refine ⟨x.1, h2, ?_, hd⟩
            unfold Sy.syms
            rcases he : x.1.ex with _ | y
            · rw [he, mem_uniq] at hm; simp [lSyms, oSyms] at hm
            · rw [he] at hm; exact (mem_lSyms y t).2 hm
    simp only [Bool.false_eq_true, if_false] at hlk
    rw [hgl] at hlk
    have hns : ∀ v w, ArgsAt 130 w [X] v → Calls Tryz.prog 47 #[v] w (NamesRes [X] w) := fun v w h => names_any (oNodes X) [X] (by simp [lNodes]) hxo (by simp) v w h
    unfold NamesRes at hns
    have hnl : (uniq (lSyms [X])).length ≤ 1000000 := by
      have h1 := uniq_len (lSyms [X])
      have h2 := lSyms_len [X]
      simp only [lNodes] at h2
      omega
    generalize uniq (lSyms [X]) = ns at hns hnl hdep
    have hfld : ∀ w, (Instr.field 101 (.agg #[.int .i64 n0, .pointer px, .int .i64 h0, .int .i64 l0]) 1).run Tryz.prog w = .ok (.pointer px) w := fun w => by kernel_rfl
    have HNS := Lib.hid hns
    have HDEP := Lib.hid hdep
    have HW := Lib.hid hw
    have HV := Lib.hid hv
    have HX := Lib.hid hX
    have HOK := Lib.hid hok
    clear hns hdep hw hv hX hgl hxo hok
    go_enter Tryz.func54, Tryz.ntmps54
    go_wp2_with fail
    (with_reducible refine (HNS.out _ _ (argsAt_opt HX.out)).mono ?_)
    rintro e w2 ⟨vn, rfl, hrow, _, hb2⟩
    have hbw : Below w.heap.size w w2 := Below.trans (b := w.alloc (.cells #[.pointer px] 38)) (by (repeat (first | exact Below.refl _ _ | refine Below.drew ?_ | (refine below_gw' ?_ (by first | omega | (simp [go_sem]; done) | (simp [go_sem]; omega)) _) | (refine Below.alloc ?_ (by first | omega | (simp [go_sem]; done) | (simp [go_sem]; omega)) _) | (refine Below.setCell ?_ (by first | omega | (simp [go_sem]; done) | (simp [go_sem]; omega)) _)))) (hb2.mono (by show _ ≤ (w.heap.push _).size; simp))
    obtain ⟨a, cap, rfl, hcap, hc⟩ := hrow.strs
    have HC := Lib.hid hc
    have HW2 := Lib.hid (HW.out.below hbw)
    have HB2 := Lib.hid hbw
    have hn1 : (ns.length : Int) ≤ 1000000 := by omega
    have hc1 : (ns.length : Int) ≤ (cap : Int) := by omega
    clear hb2 hrow hc hbw hcap c1 c2 hlk
    go_wp2_with fail
    go_loopw [19] (fun i wr => ∃ k : Nat, k ≤ ns.length ∧ i = .int .i64 k ∧ UseLoop ct co cv g b bo M (fun u => A u ∨ u = name) lO name ns w2 k wr) (fun i _ => ns.length - (intOf i).toNat)
    case atStart => exact ⟨0, Nat.zero_le _, rfl, lO, HW2.out, HV.out, fun _ h => h, fun t ht => by simp at ht, fun _ h => .inl h, Kb.refl _ _⟩
    case round =>
      obtain ⟨k, hk, rfl, lO', huw, huv, hmono, hdone, hsound, hk2⟩ := hrel
      have hck := Ck.of_kb hk2 HW2.out.om
      have d1 := huw.t
      have d2 := huw.tab.cell
      have d4 := huw.o
      have d5 := huw.v
      have l1 := cell_lt d1
      have l2 := cell_lt d2
      have l4 := cell_lt d4
      have l5 := cell_lt d5
      have HU := Lib.hid huw
      have HUV := Lib.hid huv
      have HMO := Lib.hid hmono
      have HDO := Lib.hid hdone
      have HSO := Lib.hid hsound
      have HK := Lib.hid hk2
      by_cases hlt : k < ns.length
      · obtain ⟨t, ht⟩ : ∃ t, ns[k]? = some t := ⟨_, List.getElem?_eq_getElem hlt⟩
        obtain ⟨gr, o, rfl, hgr, hcs⟩ := HC.out (by rintro rfl; simp at ht)
        have f0 := hck.cell (hcs k t ht)
        have HT : Hid (ns.take (k + 1) = ns.take k ++ [t]) := Lib.hid (by rw [List.take_add_one, ht]; rfl)
        have HTM : Hid (t ∈ ns) := Lib.hid (List.mem_of_getElem? ht)
        have hi0 : (0 : Int) ≤ (k : Int) := by omega
        have hi1 : (k : Int) < (ns.length : Int) := by omega
        have l3 := cell_lt f0
        obtain ⟨tb, htb⟩ : ∃ tb : ByteArray, (⟨t.toArray⟩ : ByteArray) = tb := ⟨_, rfl⟩
        rw [htb] at f0
        have HTB := Lib.hid htb
        have hlk := run_sget (P := Tryz.prog) Tryz.underlying103 Tryz.underlying9 zeroSym huw.tab.map tb true
        clear huw huv hmono hdone hsound hk2 hck hcs ht htb
        rcases sget_symP M tb with ⟨h1, h2⟩ | ⟨x, hx, h1, h2⟩
        · rw [h1] at hlk
          simp only [Option.getD_none, Option.isSome_none, if_true] at hlk
          have HR : Hid (∀ w3, Below wr.heap.size wr w3 → UseLoop ct co cv g b bo M (fun u => A u ∨ u = name) lO name ns w2 (k + 1) w3) := Lib.hid fun w3 hb => ⟨lO', HU.out.below hb, HUV.out, HMO.out, fun u hu hd => by
            rw [HT.out] at hu
            rcases List.mem_append.1 hu with hu | hu
            · exact HDO.out u hu hd
            · rw [List.mem_singleton] at hu; subst hu
              obtain ⟨s, hs⟩ := hd
              rw [HTB.out, h2] at hs
              exact absurd hs (by simp), HSO.out, HK.out.trans (.of_below hb)⟩
          clear h1 h2
          go_wp2_with fail
          go_roundw
          case rel => exact ⟨k + 1, by omega, by go_num, HR.out _ (by (repeat (first | exact Below.refl _ _ | refine Below.drew ?_ | (refine below_gw' ?_ (by first | omega | (simp [go_sem]; done) | (simp [go_sem]; omega)) _) | (refine Below.alloc ?_ (by first | omega | (simp [go_sem]; done) | (simp [go_sem]; omega)) _) | (refine Below.setCell ?_ (by first | omega | (simp [go_sem]; done) | (simp [go_sem]; omega)) _))))⟩
          case measure => simp [intOf]; omega
        · obtain ⟨pq, hpq⟩ := (HU.out.tab.node x hx).ptr
          rw [h1, hpq] at hlk
          simp only [symV, Option.getD_some, Option.isSome_some, if_true] at hlk
          have hls := run_sget (P := Tryz.prog) Tryz.underlying98 Tryz.underlying9 zeroBool (HU.out.om.alloc (.cells #[.int .i64 x.1.n, .pointer pq, .int .i64 x.1.here, .int .i64 x.1.line] 101)) tb false
          have HD : Hid (Dep (M.map Prod.fst) name tb) := Lib.hid ((HDEP.out tb).2 ⟨by rw [← HTB.out]; exact HTM.out, _, h2⟩)
          obtain ⟨hxm, hxn⟩ := sfindS_some h2
          rcases hst : sget lO' tb with _ | u
          · rw [hst] at hls
            simp only [Option.getD_none, Bool.false_eq_true, if_false] at hls
            have hnot : ¬ seenS lO' tb := by unfold seenS; rw [hst]; simp
            have hlt2 : unseen M (sput lO' tb (.bool true)) < unseen M lO' := unseen_lt (fun t ht => (seen_put lO' tb t _).2 (.inl ht)) hx (by rw [hxn]; exact hst) ((seen_put lO' tb _ _).2 (.inr hxn))
            have hle := unseen_le (M := M) HMO.out
            have hn0 : 0 < n := Nat.lt_of_lt_of_le (Nat.lt_of_le_of_lt (Nat.zero_le _) hlt2) (Nat.le_trans hle HN.out)
            have hcall := fun w3 (hu3 : UseW w3 ct co cv g b bo M (sput lO' tb (.bool true))) => HIH.out (n - 1) (by omega) tb (fun u => A u ∨ u = name) w3 _ (by have := HN.out; omega) hu3 (fun u v hu hna hd => by
              rw [seen_put] at hu ⊢
              rcases hu with hu | hu
              · exact .inl (HUV.out u v hu (fun h => hna (.inl h)) hd)
              · exact absurd (.inr hu) hna)
            have HCALL := Lib.hid hcall
            clear hcall hlt2 hle hn0 hnot h1 h2 hst hxm hxn hpq hx
            go_wp2_with (at_mapUpdate; refine wpList_sput rfl _ _ _ 98 rfl 9 4 Tryz.underlying98 Tryz.underlying9 bo lO' tb (.bool true) rfl rfl rfl (HU.out.om.below (by (repeat (first | exact Below.refl _ _ | refine Below.drew ?_ | (refine below_gw' ?_ (by first | omega | (simp [go_sem]; done) | (simp [go_sem]; omega)) _) | (refine Below.alloc ?_ (by first | omega | (simp [go_sem]; done) | (simp [go_sem]; omega)) _) | (refine Below.setCell ?_ (by first | omega | (simp [go_sem]; done) | (simp [go_sem]; omega)) _))))) ?_)
            intro w3 hm3 hk3 hz3
            have hu3 := (HU.out.below (show Below wr.heap.size wr _ by (repeat (first | exact Below.refl _ _ | refine Below.drew ?_ | (refine below_gw' ?_ (by first | omega | (simp [go_sem]; done) | (simp [go_sem]; omega)) _) | (refine Below.alloc ?_ (by first | omega | (simp [go_sem]; done) | (simp [go_sem]; omega)) _) | (refine Below.setCell ?_ (by first | omega | (simp [go_sem]; done) | (simp [go_sem]; omega)) _))))).kb hk3 hm3 (some_put HU.out.sb tb)
            have hkk : Kb bo wr w3 := (Kb.of_below (by (repeat (first | exact Below.refl _ _ | refine Below.drew ?_ | (refine below_gw' ?_ (by first | omega | (simp [go_sem]; done) | (simp [go_sem]; omega)) _) | (refine Below.alloc ?_ (by first | omega | (simp [go_sem]; done) | (simp [go_sem]; omega)) _) | (refine Below.setCell ?_ (by first | omega | (simp [go_sem]; done) | (simp [go_sem]; omega)) _))))).trans hk3
            have q5 := hu3.v
            have lq := cell_lt q5
            have HU3 := Lib.hid hu3
            have HK3 := Lib.hid hkk
            clear hu3 hkk hm3 hk3 hz3 d1 d2 d4 d5 hlk hls f0
            go_wp2_with fail
            (with_reducible refine (HCALL.out w3 HU3.out).mono ?_)
            rintro e w4 ⟨rfl, lO4, hu4, hv4, hm4, hd4, hs4, hk4⟩
            have HR : Hid (UseLoop ct co cv g b bo M (fun u => A u ∨ u = name) lO name ns w2 (k + 1) w4) := Lib.hid ⟨lO4, hu4, hv4, fun u hu => hm4 u ((seen_put lO' tb u _).2 (.inl (HMO.out u hu))), fun u hu hd => by
              rw [HT.out] at hu
              rcases List.mem_append.1 hu with hu | hu
              · exact hm4 _ ((seen_put lO' tb _ _).2 (.inl (HDO.out u hu hd)))
              · rw [List.mem_singleton] at hu; subst hu
                exact hm4 _ ((seen_put lO' tb _ _).2 (.inr HTB.out)), fun u hu => by
              rcases hs4 u hu with h | h
              · rw [seen_put] at h
                rcases h with h | rfl
                · exact HSO.out u h
                · exact .inr (.one HD.out)
              · exact .inr ((Leads.one HD.out).trans h), (HK.out.trans HK3.out).trans hk4⟩
            clear hu4 hv4 hm4 hd4 hs4 hk4
            go_wp2_with fail
            go_roundw
            case rel => exact ⟨k + 1, by omega, by go_num, HR.out⟩
            case measure => simp [intOf]; omega
          · obtain rfl := HU.out.sb tb u hst
            rw [hst] at hls
            simp only [Option.getD_some, Bool.false_eq_true, if_false] at hls
            have hyes : seenS lO' tb := by unfold seenS; rw [hst]; rfl
            have HR : Hid (∀ w3, Below wr.heap.size wr w3 → UseLoop ct co cv g b bo M (fun u => A u ∨ u = name) lO name ns w2 (k + 1) w3) := Lib.hid fun w3 hb => ⟨lO', HU.out.below hb, HUV.out, HMO.out, fun u hu hd => by
              rw [HT.out] at hu
              rcases List.mem_append.1 hu with hu | hu
              · exact HDO.out u hu hd
              · rw [List.mem_singleton] at hu; subst hu
                rw [HTB.out]; exact hyes, HSO.out, HK.out.trans (.of_below hb)⟩
            clear h1 h2 hyes hst hxm hxn hpq hx
            go_wp2_with fail
            go_roundw
            case rel => exact ⟨k + 1, by omega, by go_num, HR.out _ (by (repeat (first | exact Below.refl _ _ | refine Below.drew ?_ | (refine below_gw' ?_ (by first | omega | (simp [go_sem]; done) | (simp [go_sem]; omega)) _) | (refine Below.alloc ?_ (by first | omega | (simp [go_sem]; done) | (simp [go_sem]; omega)) _) | (refine Below.setCell ?_ (by first | omega | (simp [go_sem]; done) | (simp [go_sem]; omega)) _))))⟩
            case measure => simp [intOf]; omega
      · obtain rfl : k = ns.length := by omega
        clear huw huv hmono hdone hsound hk2 hck
        go_wp2_with fail
        go_end0
        have hall : ∀ t, Dep (M.map Prod.fst) name t → seenS lO' t := fun t hd => by
          obtain ⟨h1, h2⟩ := (HDEP.out t).1 hd
          have := HDO.out t.data.toList (by rw [List.take_length]; exact h1) h2
          exact this
        refine ⟨rfl, lO', HU.out, fun u v hu hna hd => ?_, HMO.out, hall, HSO.out, (Kb.of_below HB2.out).trans HK.out⟩
        by_cases e : u = name
        · subst e; exact hall v hd
        · exact HUV.out u v hu (fun h => h.elim hna e) hd
end Go.Proofs.YtnjpfhihbjihbaaGreatDoor

/- (*symbols.Table).Uses. -/
namespace Go.Proofs.YtnjpfhihbjihbaaGreatDoor
open Go.RowKit Go.Sort

open Go.ChangeMaps
/-- What Uses leaves: the sorted keys of a set. -/
def UsRes (L : List Sy) (names : List (List UInt8)) (w : World) (e : Ending) (w' : World) : Prop :=
  ∃ lO : List (ByteArray × Value), NmRes (lO.map fun x => x.1.data.toList) w e w' ∧ (lO.map Prod.fst).Nodup ∧ lO.length ≤ L.length ∧ ∀ t, seenS lO t ↔ ∃ nm ∈ names, Leads L ⟨nm.toArray⟩ t
set_option maxHeartbeats 1000000 in
theorem uses_nil (v : Value) (w : World) : Calls Tryz.prog 24 #[.pointer none, v] w fun e w' => e = .returned (.slice none 0 0) ∧ Below w.heap.size w w' := by
  go_enter Tryz.func24, Tryz.ntmps24
  go_wp2_with fail
  go_ret
  exact ⟨rfl, by (repeat (first | exact Below.refl _ _ | refine Below.drew ?_ | (refine below_gw' ?_ (by first | omega | (simp [go_sem]; done) | (simp [go_sem]; omega)) _) | (refine Below.alloc ?_ (by first | omega | (simp [go_sem]; done) | (simp [go_sem]; omega)) _) | (refine Below.setCell ?_ (by first | omega | (simp [go_sem]; done) | (simp [go_sem]; omega)) _)))⟩
theorem us_init (g b : Nat) (M : List (Sy × Value)) (w : World) (hT : TabIn w g b M) : UseW (((((w.alloc (.cells #[.pointer (some ⟨g, 0, none⟩)] 25)).alloc (.map #[] 0)).alloc (.cells #[.map (some (w.heap.size + 1))] 98)).alloc (.cells #[.func (.func 54) #[] #[.pointer (some ⟨w.heap.size, 0, none⟩), .pointer (some ⟨w.heap.size + 1 + 1, 0, none⟩), .pointer (some ⟨w.heap.size + 1 + 1 + 1, 0, none⟩)]] 99))) w.heap.size (w.heap.size + 1 + 1) (w.heap.size + 1 + 1 + 1) g b (w.heap.size + 1) M [] := by
  have hb := hT.map.lt
  refine ⟨by simp [go_sem], by simp [go_sem], by simp [go_sem], hT.below (by (repeat (first | exact Below.refl _ _ | refine Below.drew ?_ | (refine below_gw' ?_ (by first | omega | (simp [go_sem]; done) | (simp [go_sem]; omega)) _) | (refine Below.alloc ?_ (by first | omega | (simp [go_sem]; done) | (simp [go_sem]; omega)) _) | (refine Below.setCell ?_ (by first | omega | (simp [go_sem]; done) | (simp [go_sem]; omega)) _)))), .new ?_, fun t v h => by (cases h), by omega⟩
  show (Array.push (Array.push (Array.push (Array.push w.heap _) _) _) _)[_]? = _
  simp only [Array.getElem?_push, Array.size_push]
  repeat (first | rw [if_neg (by omega)] | rw [if_pos (by omega)] | rw [if_pos trivial])
/-- What holds at the head of the loop of Uses. -/
def UsLoop (ct co cv g b bo : Nat) (M : List (Sy × Value)) (names : List (List UInt8)) (w : World) (k : Nat) (wr : World) : Prop :=
  ∃ lO, UseW wr ct co cv g b bo M lO ∧ UInv (M.map Prod.fst) (fun _ => False) (seenS lO) ∧ (∀ nm ∈ names.take k, ∀ t, Dep (M.map Prod.fst) ⟨nm.toArray⟩ t → seenS lO t) ∧ (∀ t, seenS lO t → ∃ nm ∈ names.take k, Leads (M.map Prod.fst) ⟨nm.toArray⟩ t) ∧ Below w.heap.size w wr
theorem seen_mem (l : List (ByteArray × Value)) (t : ByteArray) : seenS l t ↔ t ∈ l.map Prod.fst := by
  unfold seenS
  constructor
  · intro h
    obtain ⟨v, hv⟩ := Option.isSome_iff_exists.1 h
    exact List.mem_map_of_mem (f := Prod.fst) (sget_mem hv)
  · intro h
    rcases hs : sget l t with _ | v
    · obtain ⟨x, hx, e⟩ := List.mem_map.1 h
      exact absurd e (sget_none hs x hx)
    · rfl
theorem leads_def {L : List Sy} {a b : ByteArray} (h : Leads L a b) : ∃ s, sfindS L b = some s := by
  cases h with
  | one d => obtain ⟨_, _, _, h⟩ := d; exact h
  | more _ d => obtain ⟨_, _, _, h⟩ := d; exact h
set_option maxHeartbeats 4000000 in
set_option maxRecDepth 100000 in
theorem uses_any (g b : Nat) (M : List (Sy × Value)) (hok : ∀ x ∈ M, SyOk x.1) (hM : M.length ≤ 1000) (hnm : ∀ x ∈ M, x.1.name.size ≤ 1000) (names : List (List UInt8)) (hlen : names.length ≤ 1000000) (v : Value) (w : World) (hT : TabIn w g b M) (hr : Row w v names.length (names.map Proofs.encStr)) :
    Calls Tryz.prog 24 #[.pointer (some ⟨g, 0, none⟩), v] w (UsRes (M.map Prod.fst) names w) := by
  have hg : g < w.heap.size := lt_of_block hT.head
  have hmk : ∀ w : World, (Instr.makeMap 98 none).run Tryz.prog w = .ok (.map (some w.heap.size)) (w.alloc (.map #[] 0)) := fun w => by simp [Instr.makeMap]
  have hin := us_init g b M w hT
  obtain ⟨a, cap, rfl, hcap, hc⟩ := hr.strs
  have hl1 : (names.length : Int) ≤ 1000000 := by omega
  have hc1 : (names.length : Int) ≤ (cap : Int) := by omega
  have hnd := hT.nodup
  have HT := Lib.hid hT
  have HIN := Lib.hid hin
  have HC := Lib.hid hc
  have HOK := Lib.hid hok
  have HNM := Lib.hid hnm
  clear hin hc hr hT hok hnm
  go_enter Tryz.func24, Tryz.ntmps24
  go_wp2_with fail
  go_loopw [15] (fun i wr => ∃ k : Nat, k ≤ names.length ∧ i = .int .i64 k ∧ UsLoop w.heap.size (w.heap.size + 1 + 1) (w.heap.size + 1 + 1 + 1) g b (w.heap.size + 1) M names w k wr) (fun i _ => names.length - (intOf i).toNat)
  case atStart => exact ⟨0, Nat.zero_le _, rfl, [], HIN.out, fun u v h => by simp [seenS, sget] at h, fun nm h => by simp at h, fun t h => by simp [seenS, sget] at h, by (repeat (first | exact Below.refl _ _ | refine Below.drew ?_ | (refine below_gw' ?_ (by first | omega | (simp [go_sem]; done) | (simp [go_sem]; omega)) _) | (refine Below.alloc ?_ (by first | omega | (simp [go_sem]; done) | (simp [go_sem]; omega)) _) | (refine Below.setCell ?_ (by first | omega | (simp [go_sem]; done) | (simp [go_sem]; omega)) _)))⟩
  case round =>
    obtain ⟨k, hk, rfl, lO, huw, huv, hdone, hsound, hbel⟩ := hrel
    have d4 := huw.o
    have d5 := huw.v
    have l4 := cell_lt d4
    have l5 := cell_lt d5
    have HU := Lib.hid huw
    have HUV := Lib.hid huv
    have HDO := Lib.hid hdone
    have HSO := Lib.hid hsound
    have HBEL := Lib.hid hbel
    clear HIN hmk
    by_cases hlt : k < names.length
    · obtain ⟨t, ht⟩ : ∃ t, names[k]? = some t := ⟨_, List.getElem?_eq_getElem hlt⟩
      obtain ⟨gr, o, rfl, hgr, hcs⟩ := HC.out (by rintro rfl; simp at ht)
      have f0 := (hbel.cell (p := ⟨gr, o + k, none⟩) hgr).trans (hcs k t ht)
      have HS : Hid (names.take (k + 1) = names.take k ++ [t]) := Lib.hid (by rw [List.take_add_one, ht]; rfl)
      have hcall := use_any _ _ _ _ _ _ M HOK.out _ ⟨t.toArray⟩ (fun _ => False) wr lO (Nat.le_refl _) HU.out (fun u v hu hna hd => HUV.out u v hu (fun h => h) hd)
      have HCALL := Lib.hid hcall
      have hi0 : (0 : Int) ≤ (k : Int) := by omega
      have hi1 : (k : Int) < (names.length : Int) := by omega
      have l3 := cell_lt f0
      clear huw huv hdone hsound hbel hcs hcall ht
      go_wp2_with fail
      (with_reducible refine HCALL.out.mono ?_)
      rintro e w4 ⟨rfl, lO4, hu4, hv4, hm4, hd4, hs4, hk4⟩
      have HR : Hid (UsLoop w.heap.size (w.heap.size + 1 + 1) (w.heap.size + 1 + 1 + 1) g b (w.heap.size + 1) M names w (k + 1) w4) := Lib.hid ⟨lO4, hu4, hv4, fun nm hn u hd => by
        rw [HS.out] at hn
        rcases List.mem_append.1 hn with hn | hn
        · exact hm4 u (HDO.out nm hn u hd)
        · rw [List.mem_singleton] at hn; subst hn; exact hd4 u hd, fun u hu => by
        rw [HS.out]
        rcases hs4 u hu with h | h
        · obtain ⟨nm, hn, hl⟩ := HSO.out u h
          exact ⟨nm, List.mem_append.2 (.inl hn), hl⟩
        · exact ⟨t, by simp, h⟩, HBEL.out.trans (hk4.low (by omega) HBEL.out.size)⟩
      clear hu4 hv4 hm4 hd4 hs4 hk4
      go_wp2_with fail
      go_roundw
      case rel => exact ⟨k + 1, by omega, by go_num, HR.out⟩
      case measure => simp [intOf]; omega
    · obtain rfl : k = names.length := by omega
      rw [List.take_length] at hdone hsound
      have hiff : ∀ t, seenS lO t ↔ ∃ nm ∈ names, Leads (M.map Prod.fst) ⟨nm.toArray⟩ t := fun t => by
        constructor
        · exact hsound t
        · rintro ⟨nm, hn, hl⟩
          induction hl with
          | one d => exact hdone nm hn _ d
          | more _ d ih => exact huv _ _ ih (fun h => h) d
      have hlen2 : lO.length ≤ M.length := by
        have h1 := nodup_len huw.om.nodup (m := (M.map Prod.fst).map Sy.name) fun t ht => by
          obtain ⟨nm, _, hl⟩ := (hiff t).1 ((seen_mem lO t).2 ht)
          obtain ⟨s, hs⟩ := leads_def hl
          obtain ⟨h1, h2⟩ := sfindS_some hs
          rw [← h2]; exact List.mem_map_of_mem h1
        simpa using h1
      have hsize : ∀ x ∈ lO, x.1.size ≤ maxLen := fun x hx => by
        obtain ⟨nm, _, hl⟩ := (hiff x.1).1 ((seen_mem lO x.1).2 (List.mem_map_of_mem (f := Prod.fst) hx))
        obtain ⟨s, hs⟩ := leads_def hl
        obtain ⟨h1, h2⟩ := sfindS_some hs
        obtain ⟨y, hy, e⟩ := List.mem_map.1 h1
        have := HNM.out y hy
        rw [← h2, ← e]; unfold maxLen; omega
      have hsizeW := hbel.size
      obtain ⟨D, hown, hsz, hperm⟩ := huw.om.own (P := Tryz.prog) Tryz.underlying9 (by unfold maxLen; omega) hsize
      have hkeys := fun w => callsIn_wide.1 (Tryz.maps_Keys_55 (some (w.heap.size)) w)
      have hkeys2 := fun w0 => callsIn_wide.1 (Tryz.maps_Keys_55 (some (w.heap.size + 1)) w0)
      have hsort := callsIn_wide.1 (Tryz.slices_Sorted_keys_50_55 (w.heap.size + 1) _ D noRead wr hown (by rw [hsz]; unfold maxLen; omega) (by rw [hsz]; omega))
      have HP := Lib.hid (sortL_perm hperm)
      have HK := Lib.hid hkeys2
      have HS := Lib.hid hsort
      have HND := Lib.hid huw.om.nodup
      have HIFF := Lib.hid hiff
      clear hkeys hkeys2 hsort hperm hown hsz huw huv hdone hsound hsize hiff hnd
      go_wp2_with fail
      (with_reducible refine (HK.out _).mono ?_)
      rintro e w1 ⟨rfl, rfl⟩
      go_wp2_with fail
      (with_reducible refine HS.out.mono ?_)
      rintro e w2 ⟨v, ss, rfl, hperm, hrow, hnil, hb⟩
      have hss : sortL ss = sortL (lO.map fun x => x.1.data.toList) := by rw [← HP.out]; exact sortL_perm hperm
      have HSS := Lib.hid hss
      have HROW := Lib.hid hrow
      have HNIL := Lib.hid hnil
      have HB : Hid (Below w.heap.size w w2) := Lib.hid (HBEL.out.trans (Below.mono (Below.trans (b := wr.alloc (.cells #[.map (some (w.heap.size + 1))] 98)) (show Below wr.heap.size wr _ by (repeat (first | exact Below.refl _ _ | refine Below.drew ?_ | (refine below_gw' ?_ (by first | omega | (simp [go_sem]; done) | (simp [go_sem]; omega)) _) | (refine Below.alloc ?_ (by first | omega | (simp [go_sem]; done) | (simp [go_sem]; omega)) _) | (refine Below.setCell ?_ (by first | omega | (simp [go_sem]; done) | (simp [go_sem]; omega)) _)))) (hb.mono (by show _ ≤ (wr.heap.push _).size; simp))) hsizeW))
      clear hss hrow hnil hb hperm
      go_wp2_with fail
      go_ret
      refine ⟨lO, ⟨v, rfl, ?_, ?_, HB.out⟩, HND.out, by rw [List.length_map]; exact hlen2, HIFF.out⟩
      · rw [← HSS.out, sortL_len]
        exact own_base HROW.out (by show _ ≤ (wr.heap.push _).size; simp; omega)
      · rw [HNIL.out, ← HSS.out]
        constructor
        · rintro rfl; exact List.eq_nil_of_length_eq_zero (sortL_len [])
        · intro h
          have := sortL_len ss
          rw [h] at this
          exact List.eq_nil_of_length_eq_zero (by simpa using this.symm)
end Go.Proofs.YtnjpfhihbjihbaaGreatDoor

/- The methods of a nil table. -/
namespace Go.Proofs.YtnjpfhihbjihbaaGreatDoor
open Go.RowKit Go.Sort

open Go.ChangeMaps
set_option maxHeartbeats 1000000 in
theorem define_nil (n p h l : Value) (name : ByteArray) (w : World) : Calls Tryz.prog 56 #[.pointer none, .string name, .agg #[n, p, h, l]] w fun e w' => e = .returned (.int .i64 1) ∧ Below w.heap.size w w' := by
  go_enter Tryz.func56, Tryz.ntmps56
  go_wp2_with fail
  go_ret
  exact ⟨rfl, by (repeat (first | exact Below.refl _ _ | refine Below.drew ?_ | (refine below_gw' ?_ (by first | omega | (simp [go_sem]; done) | (simp [go_sem]; omega)) _) | (refine Below.alloc ?_ (by first | omega | (simp [go_sem]; done) | (simp [go_sem]; omega)) _) | (refine Below.setCell ?_ (by first | omega | (simp [go_sem]; done) | (simp [go_sem]; omega)) _)))⟩
set_option maxHeartbeats 1000000 in
theorem label_nil (name : ByteArray) (n l : Int) (w : World) : Calls Tryz.prog 26 #[.pointer none, .string name, .int .i64 n, .int .i64 l] w fun e w' => e = .returned (.int .i64 1) ∧ Below w.heap.size w w' := by
  go_enter Tryz.func26, Tryz.ntmps26
  go_wp2_with fail
  (with_reducible refine (define_nil _ _ _ _ _ _).mono ?_)
  rintro e w1 ⟨rfl, hb1⟩
  have HB := Lib.hid hb1; clear hb1
  go_wp2_with fail
  go_ret
  exact ⟨rfl, HB.out⟩
set_option maxHeartbeats 1000000 in
theorem equ_nil (name : ByteArray) (p : Option Addr) (h l : Int) (w : World) : Calls Tryz.prog 27 #[.pointer none, .string name, .pointer p, .int .i64 h, .int .i64 l] w fun e w' => e = .returned (.int .i64 1) ∧ Below w.heap.size w w' := by
  cases p
  all_goals
    go_enter Tryz.func27, Tryz.ntmps27
    go_wp2_with fail
    (with_reducible refine (define_nil _ _ _ _ _ _).mono ?_)
    rintro e w1 ⟨rfl, hb1⟩
    have HB := Lib.hid hb1; clear hb1
    go_wp2_with fail
    go_ret
    exact ⟨rfl, HB.out⟩
set_option maxHeartbeats 1000000 in
theorem value_nil (v : Value) (h : Int) (w : World) : Calls Tryz.prog 12 #[.pointer none, v, .int .i64 h] w fun e w' => e = .returned (.tuple #[.int .i64 0, .int .i64 1]) ∧ Below w.heap.size w w' := by
  go_enter Tryz.func12, Tryz.ntmps12
  go_wp2_with fail
  exact bodyPost_ret (v := .tuple #[.int .i64 0, .int .i64 1]) (by simp [results, Tryz.results12, go_sem]) rfl ⟨rfl, by (repeat (first | exact Below.refl _ _ | refine Below.drew ?_ | (refine below_gw' ?_ (by first | omega | (simp [go_sem]; done) | (simp [go_sem]; omega)) _) | (refine Below.alloc ?_ (by first | omega | (simp [go_sem]; done) | (simp [go_sem]; omega)) _) | (refine Below.setCell ?_ (by first | omega | (simp [go_sem]; done) | (simp [go_sem]; omega)) _)))⟩
set_option maxHeartbeats 1000000 in
theorem indexF_nil (f : Value) (w : World) : Calls Tryz.prog 88 #[.slice none 0 0, f] w fun e w' => e = .returned (.int .i64 (-1)) ∧ Below w.heap.size w w' := by
  go_enter Tryz.func88, Tryz.ntmps88
  go_wp2_with fail
  refine wp_loop_rounds 1 ?_
  rw [rounds_succ]
  go_wp2_with fail
  go_ret
  exact ⟨rfl, by (repeat (first | exact Below.refl _ _ | refine Below.drew ?_ | (refine below_gw' ?_ (by first | omega | (simp [go_sem]; done) | (simp [go_sem]; omega)) _) | (refine Below.alloc ?_ (by first | omega | (simp [go_sem]; done) | (simp [go_sem]; omega)) _) | (refine Below.setCell ?_ (by first | omega | (simp [go_sem]; done) | (simp [go_sem]; omega)) _)))⟩
set_option maxHeartbeats 1000000 in
theorem deleteF_nil (f : Value) (w : World) : Calls Tryz.prog 57 #[.slice none 0 0, f] w fun e w' => e = .returned (.slice none 0 0) ∧ Below w.heap.size w w' := by
  go_enter Tryz.func57, Tryz.ntmps57
  go_wp2_with fail
  (with_reducible refine (indexF_nil _ _).mono ?_)
  rintro e w1 ⟨rfl, hb1⟩
  have HB := Lib.hid hb1; clear hb1
  go_wp2_with fail
  go_ret
  exact ⟨rfl, HB.out⟩
set_option maxHeartbeats 1000000 in
theorem insertF_nil (f : Value) (w : World) : Calls Tryz.prog 133 #[.slice none 0 0, .int .i64 0, .int .i64 0, f] w fun e w' => e = .returned (.tuple #[]) ∧ Below w.heap.size w w' := by
  go_enter Tryz.func133, Tryz.ntmps133
  go_wp2_with fail
  refine wp_loop_rounds 1 ?_
  rw [rounds_succ]
  go_wp2_with fail
  go_end0
  exact ⟨rfl, by (repeat (first | exact Below.refl _ _ | refine Below.drew ?_ | (refine below_gw' ?_ (by first | omega | (simp [go_sem]; done) | (simp [go_sem]; omega)) _) | (refine Below.alloc ?_ (by first | omega | (simp [go_sem]; done) | (simp [go_sem]; omega)) _) | (refine Below.setCell ?_ (by first | omega | (simp [go_sem]; done) | (simp [go_sem]; omega)) _)))⟩
set_option maxHeartbeats 1000000 in
theorem stableF_nil (f : Value) (w : World) : Calls Tryz.prog 89 #[.slice none 0 0, .int .i64 0, f] w fun e w' => e = .returned (.tuple #[]) ∧ Below w.heap.size w w' := by
  go_enter Tryz.func89, Tryz.ntmps89
  go_wp2_with fail
  refine wp_loop_rounds 1 ?_
  rw [rounds_succ]
  go_wp2_with fail
  (with_reducible refine (insertF_nil _ _).mono ?_)
  rintro e w1 ⟨rfl, hb1⟩
  have HB := Lib.hid hb1; clear hb1
  go_wp2_with fail
  refine wp_loop_rounds 1 ?_
  rw [rounds_succ]
  go_wp2_with fail
  go_end0
  exact ⟨rfl, HB.out⟩
set_option maxHeartbeats 1000000 in
theorem sortStable_nil (f : Value) (w : World) : Calls Tryz.prog 59 #[.slice none 0 0, f] w fun e w' => e = .returned (.tuple #[]) ∧ Below w.heap.size w w' := by
  go_enter Tryz.func59, Tryz.ntmps59
  go_wp2_with fail
  (with_reducible refine (stableF_nil _ _).mono ?_)
  rintro e w1 ⟨rfl, hb1⟩
  have HB := Lib.hid hb1; clear hb1
  go_wp2_with fail
  go_end0
  exact ⟨rfl, HB.out⟩
set_option maxHeartbeats 1000000 in
theorem faults_nil (w : World) : Calls Tryz.prog 28 #[.pointer none] w fun e w' => e = .returned (.slice none 0 0) ∧ Below w.heap.size w w' := by
  go_enter Tryz.func28, Tryz.ntmps28
  go_wp2_with fail
  (with_reducible refine (known_nil _).mono ?_)
  rintro e w1 ⟨rfl, hb1⟩
  obtain ⟨p1, rfl⟩ := gw_of_below hb1
  clear hb1
  go_wp2_with fail
  (with_reducible refine (namesT_nil _).mono ?_)
  rintro e w2 ⟨rfl, hb2⟩
  obtain ⟨p2, rfl⟩ := gw_of_below hb2
  clear hb2
  go_wp2_with fail
  (with_reducible refine (deleteF_nil _ _).mono ?_)
  rintro e w3 ⟨rfl, hb3⟩
  obtain ⟨p3, rfl⟩ := gw_of_below hb3
  clear hb3
  go_wp2_with fail
  (with_reducible refine (sortStable_nil _ _).mono ?_)
  rintro e w4 ⟨rfl, hb4⟩
  obtain ⟨p4, rfl⟩ := gw_of_below hb4
  clear hb4
  go_wp2_with fail
  refine wp_loop_rounds 1 ?_
  rw [rounds_succ]
  go_wp2_with fail
  go_ret
  exact ⟨rfl, by (repeat (first | exact Below.refl _ _ | refine Below.drew ?_ | (refine below_gw' ?_ (by first | omega | (simp [go_sem]; done) | (simp [go_sem]; omega)) _) | (refine Below.alloc ?_ (by first | omega | (simp [go_sem]; done) | (simp [go_sem]; omega)) _) | (refine Below.setCell ?_ (by first | omega | (simp [go_sem]; done) | (simp [go_sem]; omega)) _)))⟩
/-- Equ without an expression, at a table: the symbol is there, or not. -/
theorem equ_none (g b : Nat) (M : List (Sy × Value)) (name : ByteArray) (w : World) (hT : TabIn w g b M) :
    Calls Tryz.prog 27 #[.pointer (some ⟨g, 0, none⟩), .string name, .pointer none, .int .i64 0, .int .i64 1] w fun e w' => e = .returned (.int .i64 (if (sfindS (M.map Prod.fst) name).isSome then 14 else 1)) ∧ Kb b w w' := by
  have c1 := hT.cell
  have hg : g < w.heap.size := lt_of_block hT.head
  have hlk := run_sget (P := Tryz.prog) Tryz.underlying103 Tryz.underlying9 zeroSym hT.map name true
  rcases sget_symP M name with ⟨h1, h2⟩ | ⟨x, hx, h1, h2⟩
  · rw [h1] at hlk
    rw [h2]
    simp only [Option.getD_none, Option.isSome_none, if_true, Bool.false_eq_true, if_false] at hlk ⊢
    clear hT h1 h2
    go_enter Tryz.func27, Tryz.ntmps27
    go_wp2_with fail
    go_ret
    exact ⟨rfl, .of_below (by (repeat (first | exact Below.refl _ _ | refine Below.drew ?_ | (refine below_gw' ?_ (by first | omega | (simp [go_sem]; done) | (simp [go_sem]; omega)) _) | (refine Below.alloc ?_ (by first | omega | (simp [go_sem]; done) | (simp [go_sem]; omega)) _) | (refine Below.setCell ?_ (by first | omega | (simp [go_sem]; done) | (simp [go_sem]; omega)) _))))⟩
  · obtain ⟨px, hpx⟩ := (hT.node x hx).ptr
    rw [h1, hpx] at hlk
    rw [h2]
    simp only [symV, Option.getD_some, Option.isSome_some, if_true] at hlk ⊢
    have hd := fun w' (hb : Below w.heap.size w w') => define_any g b M ⟨name, 0, none, 0, 1⟩ (.pointer none) w' (hT.below hb) rfl
    dsimp only [symV] at hd
    have HD := Lib.hid hd
    have H2 : Hid ((sfindS (M.map Prod.fst) name).isSome = true) := Lib.hid (by rw [h2]; rfl)
    clear hd hT h1 h2 hpx hx
    go_enter Tryz.func27, Tryz.ntmps27
    go_wp2_with fail
    (with_reducible refine (HD.out _ (by (repeat (first | exact Below.refl _ _ | refine Below.drew ?_ | (refine below_gw' ?_ (by first | omega | (simp [go_sem]; done) | (simp [go_sem]; omega)) _) | (refine Below.alloc ?_ (by first | omega | (simp [go_sem]; done) | (simp [go_sem]; omega)) _) | (refine Below.setCell ?_ (by first | omega | (simp [go_sem]; done) | (simp [go_sem]; omega)) _))))).mono ?_)
    rintro e w1 h
    have h := h.mono (w0 := w) (by (repeat (first | exact Below.refl _ _ | refine Below.drew ?_ | (refine below_gw' ?_ (by first | omega | (simp [go_sem]; done) | (simp [go_sem]; omega)) _) | (refine Below.alloc ?_ (by first | omega | (simp [go_sem]; done) | (simp [go_sem]; omega)) _) | (refine Below.setCell ?_ (by first | omega | (simp [go_sem]; done) | (simp [go_sem]; omega)) _))))
    obtain ⟨hk, h | h⟩ := h
    · obtain ⟨_, rfl, _⟩ := h
      have HK := Lib.hid hk; clear hk
      go_wp2_with fail
      go_ret
      exact ⟨rfl, HK.out⟩
    · rw [H2.out] at h; cases h.1
end Go.Proofs.YtnjpfhihbjihbaaGreatDoor

/- (*symbols.Table).Known: its map is a new one. (The proof is known_any's.) -/
namespace Go.Proofs.YtnjpfhihbjihbaaGreatDoor
open Go.RowKit Go.Sort

open Go.ChangeMaps
set_option maxHeartbeats 4000000 in
set_option maxRecDepth 100000 in
theorem known_new (g b : Nat) (M : List (Sy × Value)) (hok : ∀ x ∈ M, SyOk x.1) (w : World) (hT : TabIn w g b M) :
    Calls Tryz.prog 19 #[.pointer (some ⟨g, 0, none⟩)] w fun e w' => ∃ bo lO, e = .returned (.map (some bo)) ∧ w.heap.size ≤ bo ∧ SMap w' bo lO ∧ (∀ t, sget lO t = (Kn (M.map Prod.fst) t).map (Value.int .i64)) ∧ Below w.heap.size w w' := by
  have c1 := hT.cell
  have hg : g < w.heap.size := lt_of_block hT.head
  have hmk : ∀ w : World, (Instr.makeMap 49 none).run Tryz.prog w = .ok (.map (some w.heap.size)) (w.alloc (.map #[] 0)) := fun w => by simp [Instr.makeMap]
  have hmk2 : ∀ w : World, (Instr.makeMap 98 none).run Tryz.prog w = .ok (.map (some w.heap.size)) (w.alloc (.map #[] 0)) := fun w => by simp [Instr.makeMap]
  have HT := Lib.hid hT; clear hT
  have HOK := Lib.hid hok; clear hok
  have cX : (((((((w.alloc (.cells #[.pointer (some ⟨g, 0, none⟩)] 25)).alloc (.map #[] 0)).alloc (.cells #[.map (some (w.heap.size + 1))] 49)).alloc (.map #[] 0)).alloc (.cells #[.map (some (w.heap.size + 1 + 1 + 1))] 98)).alloc (.cells #[.func (.func 46) #[] #[.pointer (some ⟨w.heap.size, 0, none⟩), .pointer (some ⟨w.heap.size + 1 + 1 + 1 + 1, 0, none⟩), .pointer (some ⟨w.heap.size + 1 + 1, 0, none⟩), .pointer (some ⟨w.heap.size + 1 + 1 + 1 + 1 + 1, 0, none⟩)]] 99))).cell? ⟨g, 0, none⟩ = some (.map (some b)) := (Below.cell (w := w) (p := ⟨g, 0, none⟩) (show Below w.heap.size w _ by (repeat (first | exact Below.refl _ _ | refine Below.drew ?_ | (refine below_gw' ?_ (by first | omega | (simp [go_sem]; done) | (simp [go_sem]; omega)) _) | (refine Below.alloc ?_ (by first | omega | (simp [go_sem]; done) | (simp [go_sem]; omega)) _) | (refine Below.setCell ?_ (by first | omega | (simp [go_sem]; done) | (simp [go_sem]; omega)) _)))) hg).trans c1
  go_enter Tryz.func19, Tryz.ntmps19
  go_wp2_with (at_range; refine wpList_srange rfl _ 103 rfl 9 101 Tryz.underlying103 b (M.map symP) rfl (HT.out.map.below (by (repeat (first | exact Below.refl _ _ | refine Below.drew ?_ | (refine below_gw' ?_ (by first | omega | (simp [go_sem]; done) | (simp [go_sem]; omega)) _) | (refine Below.alloc ?_ (by first | omega | (simp [go_sem]; done) | (simp [go_sem]; omega)) _) | (refine Below.setCell ?_ (by first | omega | (simp [go_sem]; done) | (simp [go_sem]; omega)) _))))) ?_)
  intro w1 hr1 hb1 hz1
  obtain ⟨hvw, hbw⟩ := kn_init2 g b M w w1 HT.out hb1
  have HVW := Lib.hid hvw
  have hrr : ∃ r, w.heap.size + 1 + 1 + 1 + 1 + 1 + 1 = r := ⟨_, rfl⟩
  obtain ⟨r, hre⟩ := hrr
  rw [hre] at hr1 ⊢
  have HRG := Lib.hid hr1
  have HBW := Lib.hid hbw
  have HR1 : Hid (r ≠ w.heap.size + 1 + 1 + 1 ∧ r ≠ w.heap.size + 1 ∧ w.heap.size ≤ r) := Lib.hid ⟨by omega, by omega, by omega⟩
  clear hb1 hz1 hr1 hvw hbw hre cX hmk hmk2 c1
  go_wp2_with fail

  go_loopw [6] (fun _ wr => ∃ left, KnLoop w.heap.size (w.heap.size + 1 + 1 + 1 + 1) (w.heap.size + 1 + 1) (w.heap.size + 1 + 1 + 1 + 1 + 1) g b (w.heap.size + 1 + 1 + 1) (w.heap.size + 1) r M w left wr) (fun _ wr => sleft wr r)
  case atStart => exact ⟨_, [], [], _, HVW.out, (Vis.start _).congr (fun t => ⟨fun h => h.elim, fun h => by simp [seenS, sget] at h⟩), fun x hx => .inr (List.mem_map_of_mem hx), HRG.out, HR1.out.1, HR1.out.2.1, HBW.out⟩
  case round =>
    obtain ⟨left, lS, lO, O, hvw, hvs, hall, hrg, hn1, hn2, hbel⟩ := hrel
    have HV := Lib.hid hvw
    have HS := Lib.hid hvs
    have HALL := Lib.hid hall
    have HRG2 := Lib.hid hrg
    have HBEL := Lib.hid hbel
    have d4 := hvw.o
    have l4 := cell_lt d4
    clear hvw hvs hall hrg hbel hn1 hn2 HVW HRG HBW
    go_wp2_with (at_next; refine wpList_snext rfl _ rfl b r (M.map symP) left rfl HRG2.out ?_ ?_)
    · intro hl0
      subst hl0
      go_wp2_with fail
      go_ret
      refine ⟨_, lO, rfl, by omega, HV.out.om, fun t => ?_, HBEL.out⟩
      rw [HV.out.ob t]
      congr 1
      apply Option.ext
      intro n
      constructor
      · exact HS.out.sound t n
      · intro hk
        obtain ⟨s, hs, _⟩ := Kn_inv hk
        obtain ⟨h1, rfl⟩ := sfindS_some hs
        obtain ⟨x, hx, rfl⟩ := List.mem_map.1 h1
        rcases HALL.out x hx with h | h
        · exact HS.out.done _ n h (fun h => h) hk
        · cases h
    · intro l1 xs xv l2 w2 hl hr2 hk2 hz2 hen
      subst hl
      have hv2 := HV.out.kr HRG2.out hk2 HR1.out.1 HR1.out.2.1
      have d5 := hv2.v
      have l5 := cell_lt d5
      have l6 := hr2.lt
      have hcall := visit_any _ _ _ _ _ _ _ _ M HOK.out _ xs (fun _ => False) w2 lS lO O (Nat.le_refl _) hv2 HS.out (fun _ a ha => ha.elim)
      have HV2 := Lib.hid hv2
      have HR2 := Lib.hid hr2
      have HCALL := Lib.hid hcall
      have HB2 : Hid (Below w.heap.size w w2) := Lib.hid (HBEL.out.trans (hk2.low HR1.out.2.2 (by have := HBEL.out.size; exact this)))
      clear hv2 hr2 hcall hk2 hz2 d4 l4
      go_wp2_with fail
      (with_reducible refine HCALL.out.mono ?_)
      rintro e w3 ⟨rfl, lS3, lO3, O3, hvw3, hvs3, hmono3, hname3, hk3⟩
      have HLOOP : Hid (KnLoop w.heap.size (w.heap.size + 1 + 1 + 1 + 1) (w.heap.size + 1 + 1) (w.heap.size + 1 + 1 + 1 + 1 + 1) g b (w.heap.size + 1 + 1 + 1) (w.heap.size + 1) r M w (l1 ++ l2) w3) := Lib.hid (by
        refine ⟨lS3, lO3, O3, hvw3, hvs3, fun y hy => ?_, HR2.out.block (hk3.block b HV2.out.tab.map.lt HV2.out.n1 HV2.out.n2) (hk3.block r HR2.out.lt HR1.out.1 HR1.out.2.1), HR1.out.1, HR1.out.2.1, HB2.out.trans (hk3.below (by omega) (by omega) HB2.out.size)⟩
        rcases HALL.out y hy with h | h
        · exact .inl (hmono3 _ h)
        · rw [List.mem_append, List.mem_cons] at h
          rcases h with h | h | h
          · exact .inr (List.mem_append.2 (.inl h))
          · left
            have e : y.1.name = xs := congrArg Prod.fst h
            rw [e]
            exact hname3 (by rw [← e]; exact ⟨_, sfindS_mem HT.out.nodup (List.mem_map_of_mem hy)⟩)
          · exact .inr (List.mem_append.2 (.inr h)))
      have hms : sleft w3 r < sleft wr r := by
        have h1 := HLOOP.out
        obtain ⟨_, _, _, _, _, _, h2, _⟩ := h1
        rw [h2.left, HRG2.out.left]
        simp
      have HMS := Lib.hid hms
      clear hvw3 hvs3 hmono3 hname3 hk3 hms
      go_wp2_with fail
      go_roundw
      case rel => exact ⟨_, HLOOP.out⟩
      case measure => exact HMS.out
end Go.Proofs.YtnjpfhihbjihbaaGreatDoor

/- The walk of the law SymbolsNil. -/
namespace Go.Proofs.YtnjpfhihbjihbaaGreatDoor
open Go.RowKit Go.Sort

open Go.ChangeMaps
theorem uses_nil1 (v : Value) (w : World) : Calls Tryz.prog 24 #[.pointer none, v] w fun e w' => e = .returned (.slice none 0 0) ∧ Below w.heap.size w w' := uses_nil v w
theorem node20_ptr (s : ByteArray) (w : World) : Calls Tryz.prog 13 #[.string s] w fun e w' => ∃ p, e = .returned (.pointer p) ∧ Below w.heap.size w w' := (node20_any s w).mono fun e w' ⟨v, h1, h2, h3⟩ => by
  obtain ⟨p, rfl⟩ := h2.ptr
  exact ⟨p, h1, h3⟩
theorem Tabs20P.kb {w w' : World} {g b bo : Nat} {rv : Value} {L : List Sy} {M R : List (Sy × Value)} {lO : List (ByteArray × Value)} (h : Tabs20P w g b rv L M R) (hk : Kb bo w w') (ho : SMap w bo lO) (hne : b ≠ bo) : Tabs20P w' g b rv L M R :=
  have hc := Ck.of_kb hk ho
  ⟨h.ti.ck hc (hk.block b h.ti.map.lt hne), h.hm, h.rt.ck hc, h.hr, h.okM, h.okR, h.ndR, h.lenR, h.lenM, h.nmM, h.nmsM⟩
set_option maxHeartbeats 4000000 in
set_option maxRecDepth 100000 in
theorem lawSNil (v : Value) (l : List Dfn) (name : ByteArray) (w : World) (h0 : Row w v l.length (l.flatMap dfnc) ∧ l.length ≤ maxLen ∧ ∀ d ∈ l, d.name.size ≤ maxLen ∧ d.text.size ≤ maxLen) (h1 : name.size ≤ maxLen) :
    Calls Tryz.prog 7 #[v, .string name] w fun e w' => e = .returned (.bool true) ∧ Below w.heap.size w w' := by
  have hbu := build_any l v w h0.1 h0.2.1 h0.2.2
  unfold BuildRes at hbu
  unfold maxLen at h1
  have hneq := fun w r => run_neq_map_nil (P := Tryz.prog) w 49 9 3 r Tryz.underlying49
  have HBU := Lib.hid hbu
  clear hbu h0
  go_enter Tryz.func7, Tryz.ntmps7
  go_wp2_with fail
  (with_reducible refine HBU.out.mono ?_)
  rintro e w2 ⟨hb2, hres⟩
  have HBW := Lib.hid hb2
  clear hb2
  rcases hres with ⟨_, rfl⟩ | ⟨L, g, b, rv, hL, rfl, htabs, hgb⟩
  · go_wp2_with fail
    (with_reducible refine (alive20 _).mono ?_)
    rintro e w4 ⟨rfl, hb4⟩
    have HB4 := Lib.hid hb4; clear hb4
    go_wp2_with fail
    go_ret
    exact ⟨rfl, bthen2 HBW.out HB4.out⟩
  · have HGB := Lib.hid hgb; clear hgb
    by_cases h50 : (50 : Int) < (name.size : Int)
    · clear htabs hL
      go_wp2_with fail
      (with_reducible refine (alive20 _).mono ?_)
      rintro e w4 ⟨rfl, hb4⟩
      have HB4 := Lib.hid hb4; clear hb4
      go_wp2_with fail
      go_ret
      exact ⟨rfl, bthen2 HBW.out HB4.out⟩
    · obtain ⟨M, R, hp⟩ := htabs.parts hL
      have hkn := known_new g b M hp.okM w2 hp.ti
      have hng := sidx_neg L name
      have hlM := hp.ti.map.lt
      have HP := Lib.hid hp
      have HKN := Lib.hid hkn
      obtain ⟨ex, hex⟩ : ∃ ex, (sfindS L name).isSome = ex := ⟨_, rfl⟩
      have HEX := Lib.hid hex
      have HNG := Lib.hid hng
      clear htabs hL hp hkn hex hng
      go_wp2_with fail
      (with_reducible refine HKN.out.mono ?_)
      rintro e w3 ⟨bo, lO, rfl, hbo, hsm, hob, hb3⟩
      have hneb : b ≠ bo := by omega
      have HP3 := Lib.hid (HP.out.below hb3)
      have HSM := Lib.hid hsm
      have HB3 := Lib.hid hb3
      have hneq3 := hneq w3 (some bo)
      clear hsm hob hb3 HKN hneq
      go_wp2_with (at_mapUpdate; refine wpList_sput rfl _ _ _ 49 rfl 9 3 Tryz.underlying49 Tryz.underlying9 bo lO name (.int .i64 1048576) rfl rfl rfl HSM.out ?_)
      intro w4 hm4 hk4 hz4
      have HP4 := Lib.hid (HP3.out.kb hk4 HSM.out hneb)
      have HB4 : Hid (Below w2.heap.size w2 w4) := Lib.hid (HB3.out.trans (hk4.low hbo HB3.out.size))
      clear hm4 hk4 hz4 HP3 HB3 hneq3 HSM hlM hbo
      go_wp2_with fail
      (with_reducible refine (node20_ptr _ _).mono ?_)
      rintro e w5 ⟨p5, rfl, hb5⟩
      have HB5 : Hid (Below w2.heap.size w2 w5) := Lib.hid (bthen2 HB4.out hb5)
      have HP5 := Lib.hid (HP4.out.below hb5)
      clear hb5 HP4 HB4
      go_wp2_with fail
      (with_reducible refine (value_nil _ _ _).mono ?_)
      rintro e w6 ⟨rfl, hb6⟩
      have HB6 : Hid (Below w2.heap.size w2 w6) := Lib.hid (bthen2 HB5.out hb6)
      have HP6 := Lib.hid (HP5.out.below hb6)
      clear hb6 HP5 HB5
      have hfi := find20_any R name rv w6 HP6.out.rt (by have := HP6.out.lenR; omega)
      rw [HP6.out.hr] at hfi
      have HFI := Lib.hid hfi; clear hfi
      go_wp2_with fail
      (with_reducible refine HFI.out.mono ?_)
      rintro e w7 ⟨rfl, hb7⟩
      have HB7 : Hid (Below w2.heap.size w2 w7) := Lib.hid (bthen2 HB6.out hb7)
      have HP7 := Lib.hid (HP6.out.below hb7)
      clear hb7 HP6 HB6 HFI
      have hmn : (sfindS (M.map Prod.fst) name).isSome = ex := by rw [HP7.out.hm, norm_find, Option.isSome_map, HEX.out]
      obtain ⟨sx, hsx⟩ : ∃ sx, sidx L name = sx := ⟨_, rfl⟩
      rw [hsx]
      have hsg : ex = true ∧ 0 ≤ sx ∨ ex = false ∧ sx < 0 := by
        have h := HNG.out
        rw [hsx] at h
        have he := HEX.out
        rcases hf : sfindS L name with _ | s
        · rw [hf] at he; exact .inr ⟨he.symm, h.1.2 hf⟩
        · rw [hf] at he
          refine .inl ⟨he.symm, ?_⟩
          rcases Int.lt_or_le sx 0 with h2 | h2
          · have := h.1.1 h2; rw [hf] at this; cases this
          · exact h2
      clear hsx
      have HMN := Lib.hid hmn; clear hmn
      rcases hsg with ⟨rfl, hs⟩ | ⟨rfl, hs⟩
      all_goals
        go_wp2_with fail
        (with_reducible refine (alive20 _).mono ?_)
        rintro e w8 ⟨rfl, hb8⟩
        have HB8 : Hid (Below w2.heap.size w2 w8) := Lib.hid (bthen2 HB7.out hb8)
        have HP8 := Lib.hid (HP7.out.below hb8)
        clear hb8
        go_wp2_with fail
        (with_reducible refine HP8.out.known.mono ?_)
        rintro e w9 ⟨m, rfl, hm9, hb9⟩
        have HB9 : Hid (Below w2.heap.size w2 w9) := Lib.hid (bthen2 HB8.out hb9)
        have HP9 := Lib.hid (HP8.out.below hb9)
        have HM9 := Lib.hid hm9
        clear hb9 hm9
        go_wp2_with fail
        (with_reducible refine HP9.out.rknown.mono ?_)
        rintro e w10 ⟨vo, rfl, hr10, hb10⟩
        have HB10 : Hid (Below w2.heap.size w2 w10) := Lib.hid (bthen2 HB9.out hb10)
        have HP10 := Lib.hid (HP9.out.below hb10)
        have HM10 := Lib.hid (HM9.out.below hb10)
        have HV10 := Lib.hid hr10
        clear hb10 hr10
        go_wp2_with fail
        (with_reducible refine (HP10.out.same _ _ _ HM10.out HV10.out).mono ?_)
        rintro e w11 ⟨rfl, hb11⟩
        have HB11 : Hid (Below w2.heap.size w2 w11) := Lib.hid (bthen2 HB10.out hb11)
        have HP11 := Lib.hid (HP10.out.below hb11)
        clear hb11
        go_wp2_with fail
        (with_reducible refine (label_nil _ _ _ _).mono ?_)
        rintro e w12 ⟨rfl, hb12⟩
        have HB12 : Hid (Below w2.heap.size w2 w12) := Lib.hid (bthen2 HB11.out hb12)
        have HP12 := Lib.hid (HP11.out.below hb12)
        clear hb12
        go_wp2_with fail
        (with_reducible refine (node20_ptr _ _).mono ?_)
        rintro e w13 ⟨p13, rfl, hb13⟩
        have HB13 : Hid (Below w2.heap.size w2 w13) := Lib.hid (bthen2 HB12.out hb13)
        have HP13 := Lib.hid (HP12.out.below hb13)
        clear hb13
        go_wp2_with fail
        (with_reducible refine (equ_nil _ _ _ _ _).mono ?_)
        rintro e w14 ⟨rfl, hb14⟩
        have HB14 : Hid (Below w2.heap.size w2 w14) := Lib.hid (bthen2 HB13.out hb14)
        have HP14 := Lib.hid (HP13.out.below hb14)
        clear hb14
        go_wp2_with fail
        (with_reducible refine (known_nil _).mono ?_)
        rintro e w15 ⟨rfl, hb15⟩
        have HB15 : Hid (Below w2.heap.size w2 w15) := Lib.hid (bthen2 HB14.out hb15)
        have HP15 := Lib.hid (HP14.out.below hb15)
        clear hb15
        go_wp2_with fail
        (with_reducible refine (faults_nil _).mono ?_)
        rintro e w16 ⟨rfl, hb16⟩
        have HB16 : Hid (Below w2.heap.size w2 w16) := Lib.hid (bthen2 HB15.out hb16)
        have HP16 := Lib.hid (HP15.out.below hb16)
        clear hb16
        go_wp2_with fail
        (with_reducible refine (namesT_nil _).mono ?_)
        rintro e w17 ⟨rfl, hb17⟩
        have HB17 : Hid (Below w2.heap.size w2 w17) := Lib.hid (bthen2 HB16.out hb17)
        have HP17 := Lib.hid (HP16.out.below hb17)
        clear hb17
        go_wp2_with fail
        (with_reducible refine (uses_nil1 _ _).mono ?_)
        rintro e w18 ⟨rfl, hb18⟩
        obtain ⟨p18, rfl⟩ := gw_of_below hb18
        have HB18 : Hid (Below w2.heap.size w2 (gw (w17.alloc (.cells #[.string name] 9)) p18)) := Lib.hid (bthen2 HB17.out (by (repeat (first | exact Below.refl _ _ | refine Below.drew ?_ | (refine below_gw' ?_ (by first | omega | (simp [go_sem]; done) | (simp [go_sem]; omega)) _) | (refine Below.alloc ?_ (by first | omega | (simp [go_sem]; done) | (simp [go_sem]; omega)) _) | (refine Below.setCell ?_ (by first | omega | (simp [go_sem]; done) | (simp [go_sem]; omega)) _)))))
        have heq := equ_none g b M name _ (HP17.out.ti.below (w' := gw (w17.alloc (.cells #[.string name] 9)) p18) (by (repeat (first | exact Below.refl _ _ | refine Below.drew ?_ | (refine below_gw' ?_ (by first | omega | (simp [go_sem]; done) | (simp [go_sem]; omega)) _) | (refine Below.alloc ?_ (by first | omega | (simp [go_sem]; done) | (simp [go_sem]; omega)) _) | (refine Below.setCell ?_ (by first | omega | (simp [go_sem]; done) | (simp [go_sem]; omega)) _)))))
        rw [HMN.out] at heq
        first | rw [if_pos rfl] at heq | rw [if_neg (by decide)] at heq
        have HEQ := Lib.hid heq
        clear hb18 heq
        go_wp2_with fail
        (with_reducible refine HEQ.out.mono ?_)
        rintro e w19 ⟨rfl, hk19⟩
        have HBF : Hid (Below w.heap.size w w19) := Lib.hid ((bthen2 HBW.out HB18.out).trans (hk19.low HGB.out (bthen2 HBW.out HB18.out).size))
        clear hk19
        go_wp2_with fail
        go_ret
        exact ⟨rfl, HBF.out⟩
end Go.Proofs.YtnjpfhihbjihbaaGreatDoor

/- The statement SymbolsNil of chapter 20: proved for every input; no condition beyond the statement's own. -/
namespace Go.Proofs.YtnjpfhihbjihbaaGreatDoor.lawSymbolsNil
open Go.ChangeShapes Go.WideShapes Go.ChangeAt Go.RowKit Go.Joins
open Go.ChangeMaps (open_string shut_string)

theorem own : ownKnob Tryz.prog.godebug = none := by kernel_rfl
theorem laidOut : laidOutB Tryz.prog = true := by kernel_rfl

/-- A table of the row's list reads as it is listed, wherever it stands on the list. -/
theorem tab_of_list {P : Program} {W : World} {name : String} {k : IntKind} {zs : List Int} {g : Nat} {t e : TypeId} {n : Nat}
    (hg : P.globalNamed name = some g) (hty : (P.globals[g]?).map (·.type) = some t) (ht : P.underlying t = some (.array n e)) (he : P.underlying e = some (.int k)) (hce : P.cellsOf e = 1) (hct : P.cellsOf t = n) :
    ∀ (l : List (String × DataW Unit)) (ps : List MemPlace), DataW.LaidVars P W l ps → (name, Lib.tabData k zs) ∈ l → Lib.TabIs P W name k zs
  | [], _, _, hm => by cases hm
  | x :: l, ps, h, hm => by
    obtain ⟨nm, d⟩ := x
    obtain ⟨g', t', cs, fuel, p, q, hg', ht', hvar, hd, hrest, _⟩ := h
    rcases List.mem_cons.1 hm with hm | hm
    · cases hm
      obtain rfl := Option.some.inj (hg.symm.trans hg')
      obtain rfl := Option.some.inj (hty.symm.trans ht')
      unfold Lib.TabIs
      rw [hvar, ← Lib.cells_of_tab ht he hce hct hd]
    · exact tab_of_list hg hty ht he hce hct l q hrest hm

theorem table {W : World} (h : laidMetH Tryz.prog Rows.symbolsNilRow.laid W) : Tabs W := by
  obtain ⟨ps, hv, _⟩ := h
  have ht : Lib.TabIs Tryz.prog W "math/bits.deBruijn64tab" .u8 [0, 1, 56, 2, 57, 49, 28, 3, 61, 58, 42, 50, 38, 29, 17, 4, 62, 47, 59, 36, 45, 43, 51, 22, 53, 39, 33, 30, 24, 18, 12, 5, 63, 55, 48, 27, 60, 41, 37, 16, 46, 35, 44, 21, 52, 32, 23, 11, 54, 26, 40, 15, 34, 20, 31, 10, 25, 14, 19, 9, 13, 8, 7, 6] :=
    tab_of_list (g := 3) (t := 249) (e := 5) (n := 64) (by kernel_rfl) (by kernel_rfl) Tryz.underlying249 Tryz.underlying5 (by kernel_rfl) (by kernel_rfl) _ ps hv (.tail _ (.head _))
  exact ht.cell (by kernel_rfl) 15 (by decide)

set_option maxRecDepth 100000 in
/-- What the walk gives, for every argument and every world that holds the tables. -/
theorem contract (H : Type) (enc : TypeId × Value → H) (W : World) (base : Nat) (args : Array Value) (ds gs : List (DataW H)) (before : List MemPlace)
    (hval : ∀ (j : Nat) t v, Tryz.f7.params[j]? = some t → args[j]? = some v → Value.okWide Tryz.prog W .any base t v)
    (hW : DataW.Whole enc Tryz.prog Tryz.f7.params.toList Rows.symbolsNilSpec.vars false W args.toList ds gs before) (_hL : laidMetH Tryz.prog Rows.symbolsNilRow.laid W) :
    Calls Tryz.prog 7 args W fun e W' => ∃ v, e = .returned v ∧ Rows.symbolsNilSpec.post enc Tryz.prog Tryz.f7 false true false false W args v W' := by
  have hW' := hW
  obtain ⟨p, q, hA0, hV, rfl, hfz, hnd⟩ := hW
  have hA : DataW.TrodAll enc Tryz.prog W 0 (fun _ => true) true Tryz.f7.params.toList args.toList ds p := hA0
  rw [Tryz.params7] at hA hval
  obtain ⟨v0, vs0, d0, ds0, p0, q0, hargs, rfl, rfl, h0, r0⟩ := trodAll_cons hA
  obtain ⟨v1, vs1, d1, ds1, p1, q1, rfl, rfl, rfl, h1, r1⟩ := trodAll_cons r0
  obtain ⟨rfl, rfl, rfl⟩ := trodAll_nil r1
  obtain rfl : args = #[v0, v1] := by cases args; simp_all
  obtain ⟨rfl, rfl⟩ := trodVars_none hV
  have k0 := h0
  have lt0 : ∀ x ∈ p0, x.block < W.heap.size := by obtain ⟨m, hm⟩ := k0; exact DataW.trod_lt m _ _ _ hm
  have k1 := h1
  have lt1 : ∀ x ∈ p1, x.block < W.heap.size := by obtain ⟨m, hm⟩ := k1; exact DataW.trod_lt m _ _ _ hm
  obtain ⟨L0, hr0⟩ := open_dfns (hval 0 22 v0 rfl rfl) h0
  obtain ⟨s1, rfl, hd1, rfl, w1⟩ := open_string Tryz.underlying9 (hval 1 9 v1 rfl rfl) h1
  refine (lawSNil v0 L0 s1 W hr0 w1).mono fun e W' ⟨he, bel⟩ => ?_
  subst he
  exact ⟨_, rfl, _, _, _, [], _, [], hW', trodAll_mk1 (shut_bool Tryz.underlying4 _), (trodAll_cons_mk (Below.trod laidOut (by kernel_rfl) (of_decide_eq_true (by kernel_rfl)) k0 bel lt0) (trodAll_cons_mk (Below.trod laidOut (by kernel_rfl) (of_decide_eq_true (by kernel_rfl)) k1 bel lt1) trodAll_mk0)), rfl, bel.frame _, fun h => by cases h⟩

/-- A world for the witness: the settled one, the tables holding what their initialisers lay. -/
noncomputable def laidWorld (os : Os) : World :=
  { World.holding Tryz.prog os ⟨#[], #[], []⟩ with heap := ((((World.holding Tryz.prog os ⟨#[], #[], []⟩).heap.modify 2 fun
      | .cells _ t frozen => .cells #[.int .u8 0, .int .u8 1, .int .u8 28, .int .u8 2, .int .u8 29, .int .u8 14, .int .u8 24, .int .u8 3, .int .u8 30, .int .u8 22, .int .u8 20, .int .u8 15, .int .u8 25, .int .u8 17, .int .u8 4, .int .u8 8, .int .u8 31, .int .u8 27, .int .u8 13, .int .u8 23, .int .u8 21, .int .u8 19, .int .u8 16, .int .u8 7, .int .u8 26, .int .u8 12, .int .u8 18, .int .u8 6, .int .u8 11, .int .u8 5, .int .u8 10, .int .u8 9] t frozen
      | o => o).modify 3 fun
      | .cells _ t frozen => .cells #[.int .u8 0, .int .u8 1, .int .u8 56, .int .u8 2, .int .u8 57, .int .u8 49, .int .u8 28, .int .u8 3, .int .u8 61, .int .u8 58, .int .u8 42, .int .u8 50, .int .u8 38, .int .u8 29, .int .u8 17, .int .u8 4, .int .u8 62, .int .u8 47, .int .u8 59, .int .u8 36, .int .u8 45, .int .u8 43, .int .u8 51, .int .u8 22, .int .u8 53, .int .u8 39, .int .u8 33, .int .u8 30, .int .u8 24, .int .u8 18, .int .u8 12, .int .u8 5, .int .u8 63, .int .u8 55, .int .u8 48, .int .u8 27, .int .u8 60, .int .u8 41, .int .u8 37, .int .u8 16, .int .u8 46, .int .u8 35, .int .u8 44, .int .u8 21, .int .u8 52, .int .u8 32, .int .u8 23, .int .u8 11, .int .u8 54, .int .u8 26, .int .u8 40, .int .u8 15, .int .u8 34, .int .u8 20, .int .u8 31, .int .u8 10, .int .u8 25, .int .u8 14, .int .u8 19, .int .u8 9, .int .u8 13, .int .u8 8, .int .u8 7, .int .u8 6] t frozen
      | o => o).modify 1 fun
      | .cells _ t frozen => .cells #[.int .u64 1, .int .u64 10, .int .u64 100, .int .u64 1000, .int .u64 10000, .int .u64 100000, .int .u64 1000000, .int .u64 10000000, .int .u64 100000000, .int .u64 1000000000, .int .u64 10000000000, .int .u64 100000000000, .int .u64 1000000000000, .int .u64 10000000000000, .int .u64 100000000000000, .int .u64 1000000000000000, .int .u64 10000000000000000, .int .u64 100000000000000000, .int .u64 1000000000000000000, .int .u64 10000000000000000000] t frozen
      | o => o) }
theorem laid_met (os : Os) : laidMet Tryz.prog Rows.symbolsNilRow.laid ((laidWorld os).forCall (fun _ _ => 0) ⟨#[], #[Value.slice none 0 0, .string ⟨#[]⟩], []⟩).memory :=
  laidMet_of_run' 8 (by kernel_rfl) (by kernel_rfl)
theorem reads (os : Os) {H : Type} (enc : TypeId × Value → H) : ∃ places, DataW.whole enc Tryz.prog ((laidWorld os).forCall (fun _ _ => 0) ⟨#[], #[Value.slice none 0 0, .string ⟨#[]⟩], []⟩).memory Tryz.f7.params.toList Rows.symbolsNilSpec.vars false (#[Value.slice none 0 0, .string ⟨#[]⟩] : Array Value).toList 8 = some ([.nil, .lit (.string [])], [], places) :=
  ⟨[], by kernel_rfl⟩

set_option maxRecDepth 100000 in
theorem lifted (os : Os) (started : os.Started) (H : Type) (enc : TypeId × Value → H) (F : Stop.Interp) :
    ReturnsInHanded {} Tryz.checked os 7 .any ((OpenSpec.ofChange Rows.symbolsNilSpec).preRow enc Tryz.prog Tryz.f7 Rows.symbolsNilRow.domain false Rows.symbolsNilRow.laid) (((OpenSpec.ofChange Rows.symbolsNilSpec).at F).post enc Tryz.prog Tryz.f7 false true false false) := by
  obtain ⟨places, hx⟩ := reads os enc
  refine returnsInHanded_of_row (C := Tryz.checked) (s := OpenSpec.ofChange Rows.symbolsNilSpec) own started (by kernel_rfl) Tryz.func7
    (witness_row_at (enc := enc) (C := Tryz.checked) false (laidWorld os) #[Value.slice none 0 0, .string ⟨#[]⟩] rfl (by kernel_rfl) (by kernel_rfl) (by kernel_rfl)
      (OpenSpec.preRow_of_cond 8 hx (by kernel_rfl) (fun k hk => by cases hk) (by kernel_rfl) (laid_met os))) ?_
  intro W base args ds gs before hval hW _ _ _ hL _ _
  exact contract H enc W base args ds gs before hval hW hL

theorem said : Rows.SymbolsNilSaid :=
  OpenClaim.holds_of_cond 7 Tryz.f7 rfl rfl rfl rfl rfl rfl rfl ⟨rfl, rfl, rfl, rfl, rfl⟩ rfl rfl rfl rfl rfl (by kernel_rfl) Tryz.func7 (by kernel_rfl)
    (of_decide_eq_true (by kernel_rfl)) (by unfold Func.isWrapper; first | (rw [if_pos (by decide +kernel)]; kernel_rfl) | (rw [if_neg (by decide +kernel)]; exact ⟨rfl, rfl⟩))
    (fun os started H enc _ F => by rw [OpenClaim.pre_eq_preRow]; exact lifted os started H enc F)

/-- No parameter wants a stand-in; the program's own looks are off. -/
theorem plain (f : FuncId) (fn : Func) (hf : Tryz.pinned.checked.prog.funcNamed "breadboard/breadboardlaw20.SymbolsNil" = some f) (hfn : Tryz.pinned.checked.prog.funcs[f]? = some fn) :
    true = Tryz.pinned.checked.prog.looks [] ∧ ∀ (j : Nat) t, fn.params[j]? = some t → Tryz.pinned.checked.prog.wantsStandIn t = false := by
  obtain rfl : f = 7 := Option.some.inj ((show Tryz.prog.funcNamed "breadboard/breadboardlaw20.SymbolsNil" = some 7 by kernel_rfl).symm.trans hf) |>.symm
  obtain rfl : fn = Tryz.f7 := (Option.some.inj (Tryz.func7.symm.trans hfn)).symm
  refine ⟨by kernel_rfl, fun j t ht => ?_⟩
  rw [Tryz.params7] at ht
  have hm : t ∈ [22, 9] := by simpa using Array.mem_of_getElem? ht
  have hall : ([22, 9].all fun u => !Tryz.prog.wantsStandIn u) = true := by kernel_rfl
  exact (show Tryz.prog.wantsStandIn t = false by simpa using List.all_eq_true.1 hall t hm)

/-- The card. -/
theorem proved : Rows.SymbolsNilCardSaid :=
  Claim7.holds_tied_plain_at .later [] _ _ _ _ said (fun _ h => by cases h) (by kernel_rfl) (fun _ h => by cases h) symbolsNil_row_tie rfl ⟨rfl, rfl⟩ (by kernel_rfl) rfl plain (by kernel_rfl)
end Go.Proofs.YtnjpfhihbjihbaaGreatDoor.lawSymbolsNil
