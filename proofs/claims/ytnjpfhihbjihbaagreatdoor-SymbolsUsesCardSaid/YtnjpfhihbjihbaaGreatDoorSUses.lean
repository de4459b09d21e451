/- The statement SymbolsUses of chapter 20: proved for every input; no condition beyond the statement's own. -/
import Derived.Test.YtnjpfhihbjihbaaGreatDoorCards
import Derived.Test.YtnjpfhihbjihbaaGreatDoorIter
import Derived.Test.YtnjpfhihbjihbaaGreatDoorS01
import Derived.Test.YtnjpfhihbjihbaaGreatDoorS09
import Derived.Test.YtnjpfhihbjihbaaGreatDoorS10
import Derived.Test.YtnjpfhihbjihbaaGreatDoorS19
import Derived.Test.YtnjpfhihbjihbaaGreatDoorS27
import Derived.Test.YtnjpfhihbjihbaaGreatDoorS30
import Derived.Test.YtnjpfhihbjihbaaGreatDoorS31
import Derived.Test.YtnjpfhihbjihbaaGreatDoorS36
import Derived.Test.YtnjpfhihbjihbaaGreatDoorS37
import Derived.Test.YtnjpfhihbjihbaaGreatDoorS39
import Derived.Test.YtnjpfhihbjihbaaGreatDoorTie
import Derived.Deep.DeepHandedRow
import Derived.Deep.RegionHeld3
import Derived.Lib.LaidTab
import Derived.Lib.SmallJoins
import Derived.Maps.AppendAt
import Derived.Maps.Own
import Derived.OpenShut
import Derived.ProofKit
import Derived.ShutString
import Derived.Sort.KeysCollected
import Derived.StringKeys
/- (*symbols.Table).Names; the sorted keys of a map. -/
namespace Go.Proofs.YtnjpfhihbjihbaaGreatDoor
open Go.RowKit Go.Sort

open Go.ChangeMaps Go.Maps
theorem own_base {w : World} {b b' : Nat} {e : TypeId} {size : Nat} {v : Value} {n : Nat} {xs : List Value} (h : w.ownsRow b e size v n xs) (hb : b' ≤ b) : w.ownsRow b' e size v n xs := by
  obtain ⟨h1, h2⟩ := h
  refine ⟨h1, ?_⟩
  rcases h2 with h2 | ⟨g, cap, cur, a1, a2, a3⟩
  · exact .inl h2
  · exact .inr ⟨g, cap, cur, a1, Nat.le_trans hb a2, a3⟩
/-- How a value reads here: as nothing. -/
def noRead : Value → Option (DataW Unit × List MemPlace) := fun _ => some (.nil, [])
theorem SMap.own {P : Program} {K : TypeId} (hk : P.underlying K = some .string) {w : World} {b : Nat} {l : List (ByteArray × Value)} (h : SMap w b l) (hl : l.length ≤ maxLen) (hs : ∀ x ∈ l, x.1.size ≤ maxLen) :
    ∃ D : DataW Unit, w.ownsMap P K noRead b l.length D ∧ Maps.size D = l.length ∧ (strKeys D).Perm (l.map fun x => x.1.data.toList) := by
  obtain ⟨es, c, hb, he, hst⟩ := h
  have hlen : es.size = l.length := by
    have := congrArg List.length he
    simpa using this
  have hkey : ∀ x ∈ es.toList, ∃ y ∈ l, x.key = .string y.1 := fun x hx => by
    have h1 : ekv x ∈ es.toList.map ekv := List.mem_map_of_mem hx
    rw [he] at h1
    obtain ⟨y, hy, e⟩ := List.mem_map.1 h1
    exact ⟨y, hy, (congrArg Prod.fst e).symm⟩
  have hrd : ∀ x ∈ es.toList, ∃ y ∈ l, x.key = .string y.1 ∧ Go.WideElems.rd P K noRead x = some (.string y.1.data.toList, .nil) := fun x hx => by
    obtain ⟨y, hy, e⟩ := hkey x hx
    refine ⟨y, hy, e, ?_⟩
    unfold Go.WideElems.rd
    rw [e, Go.WideMaps.keyOf_string_mk hk (hs y hy)]
    rfl
  refine ⟨.map ((es.toList.map (Go.WideElems.rg P K noRead)).foldr DataW.insert []), ⟨es, c, hb, ⟨by rw [hlen]; exact hl, hst, fun x hx => by obtain ⟨y, _, _, h⟩ := hrd x hx; exact ⟨_, h⟩⟩, by omega, rfl⟩, ?_, ?_⟩
  · rw [size_eq, (Go.WideShapes.sorted_perm _).length_eq, List.length_map, Array.length_toList, hlen]
  · have hp := (Go.WideShapes.sorted_perm (es.toList.map (Go.WideElems.rg P K noRead))).map (fun p : Lit × DataW Unit => strOf p.1)
    refine hp.trans (List.Perm.of_eq ?_)
    have hl2 : l.map (fun x => x.1.data.toList) = (es.toList.map ekv).map fun p => strOf (match p.1 with | .string s => .string s.data.toList | _ => .bool false) := by
      rw [he, List.map_map]
      rfl
    rw [hl2, List.map_map, List.map_map]
    refine List.map_congr_left fun x hx => ?_
    obtain ⟨y, _, e, h⟩ := hrd x hx
    simp only [Function.comp_apply, Go.WideElems.rg, h, Option.getD_some, e]
/-- The names of a table, in order. -/
def sortL (l : List (List UInt8)) : List (List UInt8) := l.mergeSort fun x y => decide (x ≤ y)
theorem sortL_perm {l m : List (List UInt8)} (h : l.Perm m) : sortL l = sortL m := mergeSort_of_perm h
theorem sortL_mem (l : List (List UInt8)) (x : List UInt8) : x ∈ sortL l ↔ x ∈ l := List.mem_mergeSort
theorem sortL_len (l : List (List UInt8)) : (sortL l).length = l.length := List.length_mergeSort _
/-- What Names leaves. -/
def NmRes (ns : List (List UInt8)) (w : World) (e : Ending) (w' : World) : Prop := ∃ v, e = .returned v ∧ w'.ownsRow w.heap.size 9 1 v (sortL ns).length ((sortL ns).map Proofs.encStr) ∧ (v = .slice none 0 0 ↔ sortL ns = []) ∧ Below w.heap.size w w'
set_option maxHeartbeats 1000000 in
theorem namesT_nil (w : World) : Calls Tryz.prog 22 #[.pointer none] w fun e w' => e = .returned (.slice none 0 0) ∧ Below w.heap.size w w' := by
  go_enter Tryz.func22, Tryz.ntmps22
  go_wp2_with fail
  go_ret
  exact ⟨rfl, by (repeat (first | exact Below.refl _ _ | refine Below.drew ?_ | (refine below_gw' ?_ (by first | omega | (simp [go_sem]; done) | (simp [go_sem]; omega)) _) | (refine Below.alloc ?_ (by first | omega | (simp [go_sem]; done) | (simp [go_sem]; omega)) _) | (refine Below.setCell ?_ (by first | omega | (simp [go_sem]; done) | (simp [go_sem]; omega)) _)))⟩
set_option maxHeartbeats 1000000 in
theorem namesT_any (g b : Nat) (M : List (Sy × Value)) (hM : M.length ≤ 1000) (hs : ∀ x ∈ M, x.1.name.size ≤ 1000) (w : World) (hT : TabIn w g b M) :
    Calls Tryz.prog 22 #[.pointer (some ⟨g, 0, none⟩)] w (NmRes (M.map fun x => x.1.name.data.toList) w) := by
  have c1 := hT.cell
  have hg : g < w.heap.size := lt_of_block hT.head
  obtain ⟨D, hown, hsz, hperm⟩ := hT.map.own (P := Tryz.prog) Tryz.underlying9 (by rw [List.length_map]; unfold maxLen; omega) (fun x hx => by obtain ⟨y, hy, rfl⟩ := List.mem_map.1 hx; have := hs y hy; show y.1.name.size ≤ _; unfold maxLen; omega)
  rw [List.length_map] at hsz
  have hkeys := fun w => callsIn_wide.1 (Tryz.maps_Keys_51 (some b) w)
  have hsort := callsIn_wide.1 (Tryz.slices_Sorted_keys_50_51 b _ D noRead w hown (by rw [hsz]; unfold maxLen; omega) (by rw [hsz]; omega))
  have hp2 : sortL (strKeys D) = sortL (M.map fun x => x.1.name.data.toList) := by
    refine sortL_perm (hperm.trans (List.Perm.of_eq ?_))
    rw [List.map_map]; rfl
  have HP := Lib.hid hp2
  have HK := Lib.hid hkeys
  have HS := Lib.hid hsort
  clear hkeys hsort hp2 hperm hown hsz hT
  go_enter Tryz.func22, Tryz.ntmps22
  go_wp2_with fail
  (with_reducible refine (HK.out _).mono ?_)
  rintro e w1 ⟨rfl, rfl⟩
  go_wp2_with fail
  (with_reducible refine HS.out.mono ?_)
  rintro e w2 ⟨v, ss, rfl, hperm, hrow, hnil, hb⟩
  have hss : sortL ss = sortL (M.map fun x => x.1.name.data.toList) := by rw [← HP.out]; exact sortL_perm hperm
  have HSS := Lib.hid hss
  have HROW := Lib.hid hrow
  have HNIL := Lib.hid hnil
  have HB : Hid (Below w.heap.size w w2) := Lib.hid (Below.trans (b := w.alloc (.cells #[.map (some b)] 103)) (by (repeat (first | exact Below.refl _ _ | refine Below.drew ?_ | (refine below_gw' ?_ (by first | omega | (simp [go_sem]; done) | (simp [go_sem]; omega)) _) | (refine Below.alloc ?_ (by first | omega | (simp [go_sem]; done) | (simp [go_sem]; omega)) _) | (refine Below.setCell ?_ (by first | omega | (simp [go_sem]; done) | (simp [go_sem]; omega)) _)))) (hb.mono (by show _ ≤ (w.heap.push _).size; simp)))
  clear hss hrow hnil hb hperm
  go_wp2_with fail
  go_ret
  refine ⟨v, rfl, ?_, ?_, HB.out⟩
  · rw [← HSS.out, sortL_len]
    exact own_base HROW.out (by show _ ≤ (w.heap.push _).size; simp)
  · rw [HNIL.out, ← HSS.out]
    constructor
    · rintro rfl; exact List.eq_nil_of_length_eq_zero (sortL_len [])
    · intro h
      have := sortL_len ss
      rw [h] at this
      exact List.eq_nil_of_length_eq_zero (by simpa using this.symm)
end Go.Proofs.YtnjpfhihbjihbaaGreatDoor

/- slices.Equal at equal rows of strings; append onto a row of one's own, the source a row that may be nil. -/
namespace Go.Proofs.YtnjpfhihbjihbaaGreatDoor
open Go.RowKit Go.Sort

theorem equalRow_any (v1 v2 : Value) (L : List (List UInt8)) (w : World) (h1 : Row w v1 L.length (L.map Proofs.encStr)) (h2 : Row w v2 L.length (L.map Proofs.encStr)) (hl : L.length ≤ 1000000) :
    Calls Tryz.prog 21 #[v1, v2] w fun e w' => e = .returned (.bool true) ∧ Below w.heap.size w w' := by
  obtain ⟨a1, c1, rfl, hc1, h1⟩ := h1
  obtain ⟨a2, c2, rfl, hc2, h2⟩ := h2
  rcases hL : L with _ | ⟨x, l⟩
  · refine (Tryz.slices_Equal_string_empty a1 a2 c1 0 c2 w (by decide)).mono ?_
    rintro e w' ⟨he, rfl⟩
    exact ⟨by rw [he]; rfl, Below.refl _ _⟩
  · rw [← hL]
    have hne : L.map Proofs.encStr ≠ [] := by rw [hL]; simp
    obtain ⟨g1, o1, rfl, hg1, h1⟩ := h1 hne
    obtain ⟨g2, o2, rfl, hg2, h2⟩ := h2 hne
    have hM : (L.map fun y => (⟨y.toArray⟩ : ByteArray)).length = L.length := by simp
    have hcell : ∀ j, j < (L.map fun y => (⟨y.toArray⟩ : ByteArray)).length → (L.map Proofs.encStr)[j]? = some (.string ((L.map fun y => (⟨y.toArray⟩ : ByteArray)).getD j ByteArray.empty)) := fun j hj => by
      rw [hM] at hj
      simp [List.getD, List.getElem?_eq_getElem hj, Proofs.encStr]
    refine (Tryz.slices_Equal_string g1 o1 L.length c1 g2 o2 L.length c2 _ _ w (by rw [hM]; exact Nat.le_refl _) (by rw [hM]; exact Nat.le_refl _) (by omega) (by omega) (fun j hj => (h1 j (by rw [List.length_map]; rw [hM] at hj; exact hj)).trans (hcell j hj)) (fun j hj => (h2 j (by rw [List.length_map]; rw [hM] at hj; exact hj)).trans (hcell j hj))).mono ?_
    rintro e w' ⟨he, q, hw⟩
    refine ⟨by rw [he, decide_eq_true rfl], ?_⟩
    rw [hw]
    exact below_drewN (Below.refl _ _) _
theorem wpList_append_src {P : Program} {w : World} {ops : Array Oper} {rest : List Oper} {o : Oper} {a : Act} {Q : Exit → Act → World → Prop} (hgd : o.guard = none) (s x : Operand) (t : TypeId)
    (ho : o.op = .call { callee := .builtin .append, args := #[s, x], argTypes := #[t, t] })
    (base : Nat) (e : TypeId) (i : TypeInfo) (z : Value) (size bytes : Nat) (ht : P.underlying t = some (.slice e)) (hi : P.info? e = some i) (hz : i.zero = some z)
    (hsize : i.size = size) (hby : i.bytes = bytes) (hzs : z.cells.size = size) (hsz : 0 < size)
    (v : Value) (n : Nat) (xs : List Value) (hs : a.eval s = v) (hown : w.ownsRow base e size v n xs)
    (v2 : Value) (m : Nat) (news : List Value) (hx : a.eval x = v2) (hsrc : SrcAt w v2 m news) (hl : news.length = m * size) (h1 : ∀ u ∈ news, u.oneCell' = true)
    (h63 : n + m ≤ maxLen) (hbytes : (n + m) * bytes ≤ 140737488355328) (hbase : base ≤ w.heap.size)
    (h : ∀ v' w', w'.ownsRow base e size v' (n + m) (xs ++ news) → w.grownBy w' v.ownBlock → (v' = .slice none 0 0 ↔ v = .slice none 0 0 ∧ m = 0) → wpList P ops Q rest (a.put o.dst v') w') : wpList P ops Q (o :: rest) a w := by
  refine wpList_plain hgd fun _ hK => ?_
  rcases hsrc with ⟨rfl, rfl⟩ | ⟨ad, c, rfl, hc⟩
  · have hn : news = [] := List.eq_nil_of_length_eq_zero (by simpa using hl)
    subst hn
    have hrun := run_append_owned_none (P := P) (w := w) base t o.type e i size ht hi v n xs hown
    unfold Oper.wp
    simp [execOp, ho, resolve, invoke, builtin, hs, hx, hrun, Result.andThen]
    exact hK _ _ (h v w (by simpa using hown) (World.grownBy.refl w _) (by simp))
  · exact wp_append_own w s x t ho base e i z size bytes ht hi hz hsize hby hzs hsz v n xs hs hown ad m c news hx hl hc h1 h63 hbytes hbase fun v' w' h2 h3 h4 => hK _ _ (h v' w' h2 h3 h4)
end Go.Proofs.YtnjpfhihbjihbaaGreatDoor

/- The walk of the law SymbolsKnown. -/
namespace Go.Proofs.YtnjpfhihbjihbaaGreatDoor
open Go.RowKit Go.Sort

open Go.ChangeMaps
theorem bthen2 {w u v : World} (h : Below w.heap.size w u) (k : Below u.heap.size u v) : Below w.heap.size w v := h.trans (k.mono h.size)
theorem symD_name {d : Dfn} {s : Sy} (h : symD d = some s) : s.name.size ≤ 50 := by
  obtain ⟨ex, rfl⟩ := symD_form h
  unfold symD at h
  split at h
  · rename_i hs; exact hs.1
  · cases h
theorem foldD_names : ∀ (l : List Dfn) (L M : List Sy), (∀ s ∈ L, s.name.size ≤ 50) → foldD L l = some M → ∀ s ∈ M, s.name.size ≤ 50
  | [], L, M, h, hf => by cases hf; exact h
  | d :: l, L, M, h, hf => by
    unfold foldD at hf
    split at hf
    · cases hf
    · rename_i N hN
      refine foldD_names l N M ?_ hf
      unfold stepD at hN
      rcases hd : symD d with _ | s
      · rw [hd] at hN; cases hN
      · rw [hd, Option.map_some, Option.some.injEq] at hN
        split at hN
        · subst hN; exact h
        · subst hN
          intro x hx
          rcases List.mem_append.1 hx with hx | hx
          · exact h x hx
          · rw [List.mem_singleton] at hx; subst hx; exact symD_name hd
theorem tableD_names {l : List Dfn} {L : List Sy} (h : tableD l = some L) : ∀ s ∈ L, s.name.size ≤ 50 := by
  unfold tableD at h
  split at h
  · cases h
  · exact foldD_names l [] L (fun s hs => by cases hs) h
theorem enc_self (s : ByteArray) : Proofs.encStr s.data.toList = .string s := by
  show Value.string ⟨s.data.toList.toArray⟩ = .string s
  simp
/-- What the tables give. -/
structure Tabs20P (w : World) (g b : Nat) (rv : Value) (L : List Sy) (M R : List (Sy × Value)) : Prop where
  ti : TabIn w g b M
  hm : M.map Prod.fst = L.map Sy.norm
  rt : RTab w rv R
  hr : R.map Prod.fst = L
  okM : ∀ y ∈ M, SyOk y.1
  okR : ∀ y ∈ R, SyOk y.1
  ndR : ((R.map Prod.fst).map Sy.name).Nodup
  lenR : R.length ≤ 1000
  lenM : M.length ≤ 1000
  nmM : ∀ y ∈ M, y.1.name.size ≤ 1000
  nmsM : (M.map fun x => x.1.name.data.toList) = L.map fun s => s.name.data.toList
theorem Tabs20.parts {w : World} {g b : Nat} {rv : Value} {l : List Dfn} {L : List Sy} (h : Tabs20 w g b rv L) (hL : tableD l = some L) : ∃ M R, Tabs20P w g b rv L M R := by
  obtain ⟨M, R, hTI, hM, hRT, hR0, hnil⟩ := h
  have htab := tableD_ok hL
  have hnm := tableD_names hL
  have hmem : ∀ y ∈ M, ∃ s ∈ L, y.1 = s.norm := fun y hy => by
    have h1 : y.1 ∈ M.map Prod.fst := List.mem_map_of_mem hy
    rw [hM] at h1
    obtain ⟨s', hs', e⟩ := List.mem_map.1 h1
    exact ⟨s', hs', e.symm⟩
  refine ⟨M, R, hTI, hM, hRT, hR0, fun y hy => ?_, fun y hy => htab.1.ok _ (by rw [← hR0]; exact List.mem_map_of_mem hy), by rw [hR0]; exact htab.1.nodup, ?_, ?_, fun y hy => ?_, ?_⟩
  · obtain ⟨s, hs, e⟩ := hmem y hy
    rw [e]; exact norm_ok (htab.1.ok s hs)
  · have := htab.2
    rw [← hR0, List.length_map] at this
    omega
  · have h1 := congrArg List.length hM
    rw [List.length_map, List.length_map] at h1
    have := htab.2
    omega
  · obtain ⟨s, hs, e⟩ := hmem y hy
    rw [e, norm_name]
    have := hnm s hs
    omega
  · have h1 : (M.map fun x => x.1.name.data.toList) = (M.map Prod.fst).map fun s => s.name.data.toList := by rw [List.map_map]; rfl
    rw [h1, hM, List.map_map]
    exact List.map_congr_left fun s _ => by simp only [Function.comp_apply, norm_name]
theorem Tabs20P.below {w w' : World} {g b : Nat} {rv : Value} {L : List Sy} {M R : List (Sy × Value)} (h : Tabs20P w g b rv L M R) (hb : Below w.heap.size w w') : Tabs20P w' g b rv L M R :=
  ⟨h.ti.below hb, h.hm, h.rt.below hb, h.hr, h.okM, h.okR, h.ndR, h.lenR, h.lenM, h.nmM, h.nmsM⟩
theorem Tabs20P.known {w : World} {g b : Nat} {rv : Value} {L : List Sy} {M R : List (Sy × Value)} (h : Tabs20P w g b rv L M R) :
    Calls Tryz.prog 19 #[.pointer (some ⟨g, 0, none⟩)] w fun e w' => ∃ m, e = .returned m ∧ KnMap w' L m ∧ Below w.heap.size w w' :=
  (known_any g b M h.okM w h.ti).mono fun e w' ⟨m, h1, h2, h3⟩ => ⟨m, h1, by
    obtain ⟨bo, lO, q1, q2, q3⟩ := h2
    refine ⟨bo, lO, q1, q2, fun t => ?_⟩
    rw [q3, h.hm, norm_Kn], h3⟩
theorem Tabs20P.rknown {w : World} {g b : Nat} {rv : Value} {L : List Sy} {M R : List (Sy × Value)} (h : Tabs20P w g b rv L M R) :
    Calls Tryz.prog 15 #[rv] w fun e w' => ∃ vo, e = .returned vo ∧ Row w' vo (knownR L).length (valc (knownR L)) ∧ Below w.heap.size w w' := by
  have := known20_any R rv w h.rt h.lenR h.okR h.ndR
  rw [h.hr] at this
  exact this
theorem Tabs20P.same {w : World} {g b : Nat} {rv : Value} {L : List Sy} {M R : List (Sy × Value)} (h : Tabs20P w g b rv L M R) (m v : Value) (w' : World) (hm : KnMap w' L m) (hr : Row w' v (knownR L).length (valc (knownR L))) :
    Calls Tryz.prog 18 #[m, v] w' fun e w'' => e = .returned (.bool true) ∧ Below w'.heap.size w' w'' := by
  have hn : (L.map Sy.name).Nodup := by rw [← h.hr]; exact h.ndR
  refine same20_any L (knownR L) (knownR_env hn) (knownR_nodup hn) (Nat.le_trans (knownR_len hn) ?_) m v w' hm hr
  have := h.lenR
  rw [← h.hr, List.length_map]; omega
theorem Tabs20P.names {w : World} {g b : Nat} {rv : Value} {L : List Sy} {M R : List (Sy × Value)} (h : Tabs20P w g b rv L M R) :
    Calls Tryz.prog 22 #[.pointer (some ⟨g, 0, none⟩)] w (NmRes (L.map fun s => s.name.data.toList) w) := by
  rw [← h.nmsM]
  exact namesT_any g b M h.lenM h.nmM w h.ti
set_option maxHeartbeats 4000000 in
set_option maxRecDepth 100000 in
theorem lawSKnown (v : Value) (l : List Dfn) (w : World) (h0 : Row w v l.length (l.flatMap dfnc) ∧ l.length ≤ maxLen ∧ ∀ d ∈ l, d.name.size ≤ maxLen ∧ d.text.size ≤ maxLen) :
    Calls Tryz.prog 5 #[v] w fun e w' => e = .returned (.bool true) ∧ Below w.heap.size w w' := by
  obtain ⟨i0, hi, hz0, hz1, hz2⟩ := info_parts Tryz.infoString
  have hbu := build_any l v w h0.1 h0.2.1 h0.2.2
  unfold BuildRes at hbu
  have HBU := Lib.hid hbu
  clear hbu h0
  go_enter Tryz.func5, Tryz.ntmps5
  go_wp2_with fail
  (with_reducible refine HBU.out.mono ?_)
  rintro e w2 ⟨hb2, hres⟩
  have HBW := Lib.hid hb2
  clear hb2
  rcases hres with ⟨_, rfl⟩ | ⟨L, g, b, rv, hL, rfl, htabs, _⟩
  · go_wp2_with fail
    (with_reducible refine (alive20 _).mono ?_)
    rintro e w4 ⟨rfl, hb4⟩
    have HB4 := Lib.hid hb4; clear hb4
    go_wp2_with fail
    go_ret
    exact ⟨rfl, bthen2 HBW.out HB4.out⟩
  · obtain ⟨M, R, hp⟩ := htabs.parts hL
    have HP := Lib.hid hp
    obtain ⟨a, cap, rfl, hcap, hc⟩ := hp.rt.parts
    have hlenR := hp.lenR
    have hl1 : (R.length : Int) ≤ 1000 := by omega
    have hc1 : (R.length : Int) ≤ (cap : Int) := by omega
    have HC := Lib.hid hc
    obtain ⟨ns, hns⟩ : ∃ ns, (L.map fun s => s.name.data.toList) = ns := ⟨_, rfl⟩
    have hnl : ns.length = R.length := by rw [← hns, ← hp.hr]; simp
    have HNS : Hid (∀ (k : Nat) (x : Sy × Value), R[k]? = some x → ns[k]? = some x.1.name.data.toList) := Lib.hid fun k x hx => by
      rw [← hns, ← hp.hr, List.getElem?_map, List.getElem?_map, hx]; rfl
    have HNAM : Hid (∀ w', Below w2.heap.size w2 w' → Calls Tryz.prog 22 #[.pointer (some ⟨g, 0, none⟩)] w' (NmRes ns w')) := Lib.hid fun w' hb => by rw [← hns]; exact (hp.below hb).names
    have HNL := Lib.hid hnl
    clear hc htabs hL hp hns hnl
    go_wp2_with fail
    go_loopw [6, 23] (fun u i wr => ∃ k : Nat, k ≤ R.length ∧ i = .int .i64 k ∧ wr.ownsRow w2.heap.size 9 1 u k ((ns.take k).map Proofs.encStr) ∧ (k = 0 → u = .slice none 0 0) ∧ Below w2.heap.size w2 wr) (fun _ i _ => R.length - (intOf i).toNat)
    case atStart => exact ⟨0, Nat.zero_le _, rfl, World.ownsRow_nil _ _ _ _, fun _ => rfl, Below.refl _ _⟩
    case round =>
      obtain ⟨k, hk, rfl, hown, hnil, hbel⟩ := hrel
      have HOWN := Lib.hid hown
      have HBEL := Lib.hid hbel
      have HNIL := Lib.hid hnil
      have hszr : w2.heap.size ≤ wr.heap.size := hbel.size
      clear hown hbel hnil
      by_cases hlt : k < R.length
      · obtain ⟨x, hx⟩ : ∃ x, R[k]? = some x := ⟨_, List.getElem?_eq_getElem hlt⟩
        obtain ⟨gr, o, rfl, hgr, hcs⟩ := HC.out (by rintro rfl; simp at hx)
        obtain ⟨e0, e1, e2, e3, e4⟩ := hcs k x hx
        have hb := HBEL.out
        have f0 := (hb.cell (p := ⟨gr, o + k * 5, none⟩) hgr).trans e0
        have f1 := (hb.cell (p := ⟨gr, o + k * 5 + 1, none⟩) hgr).trans e1
        have f2 := (hb.cell (p := ⟨gr, o + k * 5 + 2, none⟩) hgr).trans e2
        have f3 := (hb.cell (p := ⟨gr, o + k * 5 + 3, none⟩) hgr).trans e3
        have f4 := (hb.cell (p := ⟨gr, o + k * 5 + 4, none⟩) hgr).trans e4
        have hnk := HNS.out k x hx
        obtain ⟨px, hpx⟩ := (HP.out.rt.2 x (List.mem_of_getElem? hx)).ptr
        obtain ⟨⟨name, n, ex, here, line⟩, xv⟩ := x
        dsimp only at *
        subst hpx
        have HS : Hid (ns.take (k + 1) = ns.take k ++ [name.data.toList]) := Lib.hid (by rw [List.take_add_one, hnk]; rfl)
        have hi0 : (0 : Int) ≤ (k : Int) := by omega
        have hi1 : (k : Int) < (R.length : Int) := by omega
        clear hcs e0 e1 e2 e3 e4 hb hx hnk
        go_wp2_with (at_builtin; refine wpList_append_own _ rfl _ _ 45 rfl w2.heap.size 9 i0 (.string ⟨#[]⟩) 1 16 Tryz.underlying45 hi hz0 hz1 hz2 rfl (by decide) _ _ _ rfl (owns_below' HOWN.out (by (repeat (first | exact Below.refl _ _ | refine Below.drew ?_ | (refine below_gw' ?_ (by first | omega | (simp [go_sem]; done) | (simp [go_sem]; omega)) _) | (refine Below.alloc ?_ (by first | omega | (simp [go_sem]; done) | (simp [go_sem]; omega)) _) | (refine Below.setCell ?_ (by first | omega | (simp [go_sem]; done) | (simp [go_sem]; omega)) _))))) _ 1 1 [.string name] rfl rfl ?d1 ?d2 ?d3 ?d4 ?d5 ?_)
        case d1 =>
          intro q u hq
          rw [addr_add]
          match q, hq with
          | 0, hq => simp at hq; subst hq; simp [go_sem]
        case d2 => first | exact ⟨rfl⟩ | (intro u hu; simp at hu; rcases hu with rfl; rfl) | rfl
        case d3 => unfold maxLen; omega
        case d4 => omega
        case d5 => (first | omega | (simp [go_sem]; done) | (simp [go_sem]; omega))
        intro v' w3 hown' hgrow hnil'
        have hb' : Below w2.heap.size w2 w3 := (HBEL.out.trans (Below.mono (show Below wr.heap.size wr _ by (repeat (first | exact Below.refl _ _ | refine Below.drew ?_ | (refine below_gw' ?_ (by first | omega | (simp [go_sem]; done) | (simp [go_sem]; omega)) _) | (refine Below.alloc ?_ (by first | omega | (simp [go_sem]; done) | (simp [go_sem]; omega)) _) | (refine Below.setCell ?_ (by first | omega | (simp [go_sem]; done) | (simp [go_sem]; omega)) _)))) hszr)).grown hgrow (by (first | omega | (simp [go_sem]; done) | (simp [go_sem]; omega))) (own_low HOWN.out)
        have HOWN3 := Lib.hid hown'; clear hown'
        have HB' := Lib.hid hb'; clear hb' hgrow hnil'
        go_wp2_with fail
        go_roundw
        case rel => exact ⟨k + 1, by omega, by go_num, by rw [HS.out, List.map_append, List.map_take]; have := HOWN3.out; rw [← enc_self name] at this; exact this, fun h => by omega, HB'.out⟩
        case measure => simp [intOf]; omega
      · obtain rfl : k = R.length := by omega
        have hown := HOWN.out
        rw [← HNL.out, List.take_length] at hown
        have hn0 : ns = [] → u6 = .slice none 0 0 := fun h => HNIL.out (by rw [← HNL.out, h]; rfl)
        have hso := sort_any w2.heap.size u6 ns wr hown hn0 (by rw [HNL.out]; omega) hszr
        have HSO := Lib.hid hso
        have HN0 := Lib.hid hn0
        clear hso hown hn0
        go_wp2_with fail
        (with_reducible refine HSO.out.mono ?_)
        rintro e w3 ⟨rfl, hown3, hb3⟩
        have HR3 := Lib.hid (Row.of_owns hown3)
        have HB3 : Hid (Below w2.heap.size w2 w3) := Lib.hid (HBEL.out.trans hb3)
        clear hown3 hb3
        go_wp2_with fail
        (with_reducible refine (alive20 _).mono ?_)
        rintro e w4 ⟨rfl, hb4⟩
        have HR4 := Lib.hid (HR3.out.below hb4)
        have HB4 : Hid (Below w2.heap.size w2 w4) := Lib.hid (bthen2 HB3.out hb4)
        clear hb4
        go_wp2_with fail
        (with_reducible refine (HP.out.below HB4.out).known.mono ?_)
        rintro e w5 ⟨m, rfl, hm5, hb5⟩
        have HR5 := Lib.hid (HR4.out.below hb5)
        have HB5 : Hid (Below w2.heap.size w2 w5) := Lib.hid (bthen2 HB4.out hb5)
        have HM5 := Lib.hid hm5
        clear hb5 hm5
        go_wp2_with fail
        (with_reducible refine (HP.out.below HB5.out).rknown.mono ?_)
        rintro e w6 ⟨vo, rfl, hr6, hb6⟩
        have HR6 := Lib.hid (HR5.out.below hb6)
        have HB6 : Hid (Below w2.heap.size w2 w6) := Lib.hid (bthen2 HB5.out hb6)
        have HM6 := Lib.hid (HM5.out.below hb6)
        have HV6 := Lib.hid hr6
        clear hb6 hr6
        go_wp2_with fail
        (with_reducible refine (HP.out.same _ _ _ HM6.out HV6.out).mono ?_)
        rintro e w7 ⟨rfl, hb7⟩
        have HR7 := Lib.hid (HR6.out.below hb7)
        have HB7 : Hid (Below w2.heap.size w2 w7) := Lib.hid (bthen2 HB6.out hb7)
        clear hb7
        go_wp2_with fail
        (with_reducible refine (HNAM.out _ HB7.out).mono ?_)
        rintro e w8 ⟨vn, rfl, hrow8, _, hb8⟩
        have HR8 := Lib.hid (HR7.out.below hb8)
        have HB8 : Hid (Below w2.heap.size w2 w8) := Lib.hid (bthen2 HB7.out hb8)
        have HN8 := Lib.hid (Row.of_owns hrow8)
        have hr8 : Row w8 u6 (sortL ns).length ((sortL ns).map Proofs.encStr) := by rw [sortL_len]; exact HR8.out
        have HS8 := Lib.hid hr8; clear hr8
        clear hb8 hrow8
        go_wp2_with fail
        (with_reducible refine (equalRow_any _ _ (sortL ns) _ HN8.out HS8.out (by rw [sortL_len, HNL.out]; omega)).mono ?_)
        rintro e w9 ⟨rfl, hb9⟩
        have HB9 : Hid (Below w2.heap.size w2 w9) := Lib.hid (bthen2 HB8.out hb9)
        clear hb9
        go_wp2_with fail
        go_ret
        exact ⟨rfl, bthen2 HBW.out HB9.out⟩
end Go.Proofs.YtnjpfhihbjihbaaGreatDoor

/- The closure of (*symbols.Table).Uses. -/
namespace Go.Proofs.YtnjpfhihbjihbaaGreatDoor
open Go.RowKit Go.Sort

open Go.ChangeMaps
/-- The set O is closed but for A. -/
def UInv (L : List Sy) (A O : ByteArray → Prop) : Prop := ∀ u v, O u → ¬ A u → Dep L u v → O v
/-- The world of the closure. -/
structure UseW (w : World) (ct co cv g b bo : Nat) (M : List (Sy × Value)) (lO : List (ByteArray × Value)) : Prop where
  t : w.cell? ⟨ct, 0, none⟩ = some (.pointer (some ⟨g, 0, none⟩))
  o : w.cell? ⟨co, 0, none⟩ = some (.map (some bo))
  v : w.cell? ⟨cv, 0, none⟩ = some (.func (.func 54) #[] #[.pointer (some ⟨ct, 0, none⟩), .pointer (some ⟨co, 0, none⟩), .pointer (some ⟨cv, 0, none⟩)])
  tab : TabIn w g b M
  om : SMap w bo lO
  sb : ∀ t v, sget lO t = some v → v = .bool true
  n1 : b ≠ bo
theorem UseW.kb {w w' : World} {ct co cv g b bo : Nat} {M : List (Sy × Value)} {lO lO' : List (ByteArray × Value)} (h : UseW w ct co cv g b bo M lO) (hk : Kb bo w w') (hO : SMap w' bo lO') (hs : ∀ t v, sget lO' t = some v → v = .bool true) : UseW w' ct co cv g b bo M lO' :=
  have hc := Ck.of_kb hk h.om
  ⟨hc.cell h.t, hc.cell h.o, hc.cell h.v, h.tab.ck hc (hk.block b h.tab.map.lt h.n1), hO, hs, h.n1⟩
theorem UseW.below {w w' : World} {ct co cv g b bo : Nat} {M : List (Sy × Value)} {lO : List (ByteArray × Value)} (h : UseW w ct co cv g b bo M lO) (hb : Below w.heap.size w w') : UseW w' ct co cv g b bo M lO :=
  h.kb (.of_below hb) (h.om.below hb) h.sb
/-- What the closure leaves. -/
def UsePost (ct co cv g b bo : Nat) (M : List (Sy × Value)) (A : ByteArray → Prop) (lO : List (ByteArray × Value)) (name : ByteArray) (w : World) (e : Ending) (w' : World) : Prop :=
  e = .returned (.tuple #[]) ∧ ∃ lO', UseW w' ct co cv g b bo M lO' ∧ UInv (M.map Prod.fst) A (seenS lO') ∧ (∀ t, seenS lO t → seenS lO' t) ∧ (∀ t, Dep (M.map Prod.fst) name t → seenS lO' t) ∧ (∀ t, seenS lO' t → seenS lO t ∨ Leads (M.map Prod.fst) name t) ∧ Kb bo w w'
theorem argsAt_opt {w : World} {X : Option Ex} {v : Value} {T : TypeId} (h : OptAt 130 w X v) : ArgsAt 130 (w.alloc (.cells #[v] T)) [X] (.slice (some ⟨w.heap.size, 0, none⟩) 1 1) := by
  refine ⟨w.heap.size, 0, 1, rfl, by show _ < (w.heap.push _).size; simp, fun j x hx => ?_⟩
  rcases j with _ | j
  · simp only [List.getElem?_cons_zero, Option.some.injEq] at hx
    subst hx
    refine ⟨v, by rw [cell_at (alloc_at' w _)]; rfl, h.below ((Below.refl _ _).alloc (Nat.le_refl _) _)⟩
  · simp at hx
/-- What holds at the head of the closure's loop. -/
def UseLoop (ct co cv g b bo : Nat) (M : List (Sy × Value)) (A : ByteArray → Prop) (lO : List (ByteArray × Value)) (name : ByteArray) (ns : List (List UInt8)) (w : World) (k : Nat) (wr : World) : Prop :=
  ∃ lO', UseW wr ct co cv g b bo M lO' ∧ UInv (M.map Prod.fst) A (seenS lO') ∧ (∀ t, seenS lO t → seenS lO' t) ∧ (∀ t ∈ ns.take k, (∃ s, sfindS (M.map Prod.fst) ⟨t.toArray⟩ = some s) → seenS lO' ⟨t.toArray⟩) ∧ (∀ t, seenS lO' t → seenS lO t ∨ Leads (M.map Prod.fst) name t) ∧ Kb bo w wr
set_option maxHeartbeats 4000000 in
set_option maxRecDepth 100000 in
theorem use_any (ct co cv g b bo : Nat) (M : List (Sy × Value)) (hok : ∀ x ∈ M, SyOk x.1) : ∀ (n : Nat) (name : ByteArray) (A : ByteArray → Prop) (w : World) (lO : List (ByteArray × Value)), unseen M lO ≤ n → UseW w ct co cv g b bo M lO → UInv (M.map Prod.fst) (fun u => A u ∨ u = name) (seenS lO) →
    Calls Tryz.prog 54 #[.string name, .pointer (some ⟨ct, 0, none⟩), .pointer (some ⟨co, 0, none⟩), .pointer (some ⟨cv, 0, none⟩)] w (UsePost ct co cv g b bo M A lO name w) := by
    intro n
    induction n using Nat.strongRecOn with
    | _ n ih =>
    intro name A w lO hn hw hv
    have HIH := Lib.hid ih; clear ih
    have HN := Lib.hid hn; clear hn
    have c1 := hw.t
    have c2 := hw.tab.cell
    have hg : g < w.heap.size := lt_of_block hw.tab.head
    have hct := cell_lt c1
    have hlk := run_sget (P := Tryz.prog) Tryz.underlying103 Tryz.underlying9 zeroSym hw.tab.map name false
    obtain ⟨X, px, n0, h0, l0, hX, hxo, hdep, hgl⟩ : ∃ (X : Option Ex) (px : Option Addr) (n0 h0 l0 : Int), OptAt 130 w X (.pointer px) ∧ oNodes X ≤ 1000000 ∧ (∀ t, Dep (M.map Prod.fst) name t ↔ (t.data.toList ∈ uniq (lSyms [X]) ∧ ∃ s, sfindS (M.map Prod.fst) t = some s)) ∧ (sget (M.map symP) name).getD (.agg #[.int .i64 0, .pointer none, .int .i64 0, .int .i64 0]) = .agg #[.int .i64 n0, .pointer px, .int .i64 h0, .int .i64 l0] := by
      rcases sget_symP M name with ⟨h1, h2⟩ | ⟨x, hx, h1, h2⟩
      · refine ⟨none, none, 0, 0, 0, rfl, Nat.zero_le _, fun t => ⟨(fun ⟨s, hs, _⟩ => by rw [h2] at hs; cases hs), fun ⟨h, _⟩ => ?_⟩, by rw [h1]; rfl⟩
        rw [mem_uniq] at h
        simp [lSyms, oSyms] at h
      · obtain ⟨px, hpx⟩ := (hw.tab.node x hx).ptr
        have hxn := hw.tab.node x hx
        rw [hpx] at hxn
        refine ⟨x.1.ex, px, x.1.n, x.1.here, x.1.line, hxn, ?_, fun t => ?_, by rw [h1, Option.getD_some]; unfold symV; rw [hpx]⟩
        · rcases he : x.1.ex with _ | y
          · exact Nat.zero_le _
          · exact ((hok x hx).2.2 y he).2
        · constructor
          · rintro ⟨s, hs, hb, hd⟩
            rw [h2] at hs; cases hs
            refine ⟨?_, hd⟩
            unfold Sy.syms at hb
            rcases he : x.1.ex with _ | y
            · rw [he] at hb; cases hb
            · rw [he] at hb; exact (mem_lSyms y t).1 hb
          · rintro ⟨hm, hd⟩
            refine ⟨x.1, h2, ?_, hd⟩
            unfold Sy.syms
            rcases he : x.1.ex with _ | y
            · rw [he, mem_uniq] at hm; simp [lSyms, oSyms] at hm
            · rw [he] at hm; exact (mem_lSyms y t).2 hm
    simp only [Bool.false_eq_true, if_false] at hlk
    rw [hgl] at hlk
    have hns : ∀ v w, ArgsAt 130 w [X] v → Calls Tryz.prog 47 #[v] w (NamesRes [X] w) := fun v w h => names_any (oNodes X) [X] (by simp [lNodes]) hxo (by simp) v w h
    unfold NamesRes at hns
    have hnl : (uniq (lSyms [X])).length ≤ 1000000 := by
      have h1 := uniq_len (lSyms [X])
      have h2 := lSyms_len [X]
      simp only [lNodes] at h2
      omega
    generalize uniq (lSyms [X]) = ns at hns hnl hdep
    have hfld : ∀ w, (Instr.field 101 (.agg #[.int .i64 n0, .pointer px, .int .i64 h0, .int .i64 l0]) 1).run Tryz.prog w = .ok (.pointer px) w := fun w => by kernel_rfl
    have HNS := Lib.hid hns
    have HDEP := Lib.hid hdep
    have HW := Lib.hid hw
    have HV := Lib.hid hv
    have HX := Lib.hid hX
    have HOK := Lib.hid hok
    clear hns hdep hw hv hX hgl hxo hok
    go_enter Tryz.func54, Tryz.ntmps54
    go_wp2_with fail
    (with_reducible refine (HNS.out _ _ (argsAt_opt HX.out)).mono ?_)
    rintro e w2 ⟨vn, rfl, hrow, _, hb2⟩
    have hbw : Below w.heap.size w w2 := Below.trans (b := w.alloc (.cells #[.pointer px] 38)) (by (repeat (first | exact Below.refl _ _ | refine Below.drew ?_ | (refine below_gw' ?_ (by first | omega | (simp [go_sem]; done) | (simp [go_sem]; omega)) _) | (refine Below.alloc ?_ (by first | omega | (simp [go_sem]; done) | (simp [go_sem]; omega)) _) | (refine Below.setCell ?_ (by first | omega | (simp [go_sem]; done) | (simp [go_sem]; omega)) _)))) (hb2.mono (by show _ ≤ (w.heap.push _).size; simp))
    obtain ⟨a, cap, rfl, hcap, hc⟩ := hrow.strs
    have HC := Lib.hid hc
    have HW2 := Lib.hid (HW.out.below hbw)
    have HB2 := Lib.hid hbw
    have hn1 : (ns.length : Int) ≤ 1000000 := by omega
    have hc1 : (ns.length : Int) ≤ (cap : Int) := by omega
    clear hb2 hrow hc hbw hcap c1 c2 hlk
    go_wp2_with fail
    go_loopw [19] (fun i wr => ∃ k : Nat, k ≤ ns.length ∧ i = .int .i64 k ∧ UseLoop ct co cv g b bo M (fun u => A u ∨ u = name) lO name ns w2 k wr) (fun i _ => ns.length - (intOf i).toNat)
    case atStart => exact ⟨0, Nat.zero_le _, rfl, lO, HW2.out, HV.out, fun _ h => h, fun t ht => by simp at ht, fun _ h => .inl h, Kb.refl _ _⟩
    case round =>
      obtain ⟨k, hk, rfl, lO', huw, huv, hmono, hdone, hsound, hk2⟩ := hrel
      have hck := Ck.of_kb hk2 HW2.out.om
      have d1 := huw.t
      have d2 := huw.tab.cell
      have d4 := huw.o
      have d5 := huw.v
      have l1 := cell_lt d1
      have l2 := cell_lt d2
      have l4 := cell_lt d4
      have l5 := cell_lt d5
      have HU := Lib.hid huw
      have HUV := Lib.hid huv
      have HMO := Lib.hid hmono
      have HDO := Lib.hid hdone
      have HSO := Lib.hid hsound
      have HK := Lib.hid hk2
      by_cases hlt : k < ns.length
      · obtain ⟨t, ht⟩ : ∃ t, ns[k]? = some t := ⟨_, List.getElem?_eq_getElem hlt⟩
        obtain ⟨gr, o, rfl, hgr, hcs⟩ := HC.out (by rintro rfl; simp at ht)
        have f0 := hck.cell (hcs k t ht)
        have HT : Hid (ns.take (k + 1) = ns.take k ++ [t]) := Lib.hid (by rw [List.take_add_one, ht]; rfl)
        have HTM : Hid (t ∈ ns) := Lib.hid (List.mem_of_getElem? ht)
        have hi0 : (0 : Int) ≤ (k : Int) := by omega
        have hi1 : (k : Int) < (ns.length : Int) := by omega
        have l3 := cell_lt f0
        obtain ⟨tb, htb⟩ : ∃ tb : ByteArray, (⟨t.toArray⟩ : ByteArray) = tb := ⟨_, rfl⟩
        rw [htb] at f0
        have HTB := Lib.hid htb
        have hlk := run_sget (P := Tryz.prog) Tryz.underlying103 Tryz.underlying9 zeroSym huw.tab.map tb true
        clear huw huv hmono hdone hsound hk2 hck hcs ht htb
        rcases sget_symP M tb with ⟨h1, h2⟩ | ⟨x, hx, h1, h2⟩
        · rw [h1] at hlk
          simp only [Option.getD_none, Option.isSome_none, if_true] at hlk
          have HR : Hid (∀ w3, Below wr.heap.size wr w3 → UseLoop ct co cv g b bo M (fun u => A u ∨ u = name) lO name ns w2 (k + 1) w3) := Lib.hid fun w3 hb => ⟨lO', HU.out.below hb, HUV.out, HMO.out, fun u hu hd => by
            rw [HT.out] at hu
            rcases List.mem_append.1 hu with hu | hu
            · exact HDO.out u hu hd
            · rw [List.mem_singleton] at hu; subst hu
              obtain ⟨s, hs⟩ := hd
              rw [HTB.out, h2] at hs
              exact absurd hs (by simp), HSO.out, HK.out.trans (.of_below hb)⟩
          clear h1 h2
          go_wp2_with fail
          go_roundw
          case rel => exact ⟨k + 1, by omega, by go_num, HR.out _ (by (repeat (first | exact Below.refl _ _ | refine Below.drew ?_ | (refine below_gw' ?_ (by first | omega | (simp [go_sem]; done) | (simp [go_sem]; omega)) _) | (refine Below.alloc ?_ (by first | omega | (simp [go_sem]; done) | (simp [go_sem]; omega)) _) | (refine Below.setCell ?_ (by first | omega | (simp [go_sem]; done) | (simp [go_sem]; omega)) _))))⟩
          case measure => simp [intOf]; omega
        · obtain ⟨pq, hpq⟩ := (HU.out.tab.node x hx).ptr
          rw [h1, hpq] at hlk
          simp only [symV, Option.getD_some, Option.isSome_some, if_true] at hlk
          have hls := run_sget (P := Tryz.prog) Tryz.underlying98 Tryz.underlying9 zeroBool (HU.out.om.alloc (.cells #[.int .i64 x.1.n, .pointer pq, .int .i64 x.1.here, .int .i64 x.1.line] 101)) tb false
          have HD : Hid (Dep (M.map Prod.fst) name tb) := Lib.hid ((HDEP.out tb).2 ⟨by rw [← HTB.out]; exact HTM.out, _, h2⟩)
          obtain ⟨hxm, hxn⟩ := sfindS_some h2
          rcases hst : sget lO' tb with _ | u
          · rw [hst] at hls
            simp only [Option.getD_none, Bool.false_eq_true, if_false] at hls
            have hnot : ¬ seenS lO' tb := by unfold seenS; rw [hst]; simp
            have hlt2 : unseen M (sput lO' tb (.bool true)) < unseen M lO' := unseen_lt (fun t ht => (seen_put lO' tb t _).2 (.inl ht)) hx (by rw [hxn]; exact hst) ((seen_put lO' tb _ _).2 (.inr hxn))
            have hle := unseen_le (M := M) HMO.out
            have hn0 : 0 < n := Nat.lt_of_lt_of_le (Nat.lt_of_le_of_lt (Nat.zero_le _) hlt2) (Nat.le_trans hle HN.out)
            have hcall := fun w3 (hu3 : UseW w3 ct co cv g b bo M (sput lO' tb (.bool true))) => HIH.out (n - 1) (by omega) tb (fun u => A u ∨ u = name) w3 _ (by have := HN.out; omega) hu3 (fun u v hu hna hd => by
              rw [seen_put] at hu ⊢
              rcases hu with hu | hu
              · exact .inl (HUV.out u v hu (fun h => hna (.inl h)) hd)
              · exact absurd (.inr hu) hna)
            have HCALL := Lib.hid hcall
            clear hcall hlt2 hle hn0 hnot h1 h2 hst hxm hxn hpq hx
            go_wp2_with (at_mapUpdate; refine wpList_sput rfl _ _ _ 98 rfl 9 4 Tryz.underlying98 Tryz.underlying9 bo lO' tb (.bool true) rfl rfl rfl (HU.out.om.below (by (repeat (first | exact Below.refl _ _ | refine Below.drew ?_ | (refine below_gw' ?_ (by first | omega | (simp [go_sem]; done) | (simp [go_sem]; omega)) _) | (refine Below.alloc ?_ (by first | omega | (simp [go_sem]; done) | (simp [go_sem]; omega)) _) | (refine Below.setCell ?_ (by first | omega | (simp [go_sem]; done) | (simp [go_sem]; omega)) _))))) ?_)
            intro w3 hm3 hk3 hz3
            have hu3 := (HU.out.below (show Below wr.heap.size wr _ by (repeat (first | exact Below.refl _ _ | refine Below.drew ?_ | (refine below_gw' ?_ (by first | omega | (simp [go_sem]; done) | (simp [go_sem]; omega)) _) | (refine Below.alloc ?_ (by first | omega | (simp [go_sem]; done) | (simp [go_sem]; omega)) _) | (refine Below.setCell ?_ (by first | omega | (simp [go_sem]; done) | (simp [go_sem]; omega)) _))))).kb hk3 hm3 (some_put HU.out.sb tb)
            have hkk : Kb bo wr w3 := (Kb.of_below (by (repeat (first | exact Below.refl _ _ | refine Below.drew ?_ | (refine below_gw' ?_ (by first | omega | (simp [go_sem]; done) | (simp [go_sem]; omega)) _) | (refine Below.alloc ?_ (by first | omega | (simp [go_sem]; done) | (simp [go_sem]; omega)) _) | (refine Below.setCell ?_ (by first | omega | (simp [go_sem]; done) | (simp [go_sem]; omega)) _))))).trans hk3
            have q5 := hu3.v
            have lq := cell_lt q5
            have HU3 := Lib.hid hu3
            have HK3 := Lib.hid hkk
            clear hu3 hkk hm3 hk3 hz3 d1 d2 d4 d5 hlk hls f0
            go_wp2_with fail
            (with_reducible refine (HCALL.out w3 HU3.out).mono ?_)
            rintro e w4 ⟨rfl, lO4, hu4, hv4, hm4, hd4, hs4, hk4⟩
            have HR : Hid (UseLoop ct co cv g b bo M (fun u => A u ∨ u = name) lO name ns w2 (k + 1) w4) := Lib.hid ⟨lO4, hu4, hv4, fun u hu => hm4 u ((seen_put lO' tb u _).2 (.inl (HMO.out u hu))), fun u hu hd => by
              rw [HT.out] at hu
              rcases List.mem_append.1 hu with hu | hu
              · exact hm4 _ ((seen_put lO' tb _ _).2 (.inl (HDO.out u hu hd)))
              · rw [List.mem_singleton] at hu; subst hu
                exact hm4 _ ((seen_put lO' tb _ _).2 (.inr HTB.out)), fun u hu => by
              rcases hs4 u hu with h | h
              · rw [seen_put] at h
                rcases h with h | rfl
                · exact HSO.out u h
                · exact .inr (.one HD.out)
              · exact .inr ((Leads.one HD.out).trans h), (HK.out.trans HK3.out).trans hk4⟩
            clear hu4 hv4 hm4 hd4 hs4 hk4
            go_wp2_with fail
            go_roundw
            case rel => exact ⟨k + 1, by omega, by go_num, HR.out⟩
            case measure => simp [intOf]; omega
          · obtain rfl := HU.out.sb tb u hst
            rw [hst] at hls
            simp only [Option.getD_some, Bool.false_eq_true, if_false] at hls
            have hyes : seenS lO' tb := by unfold seenS; rw [hst]; rfl
            have HR : Hid (∀ w3, Below wr.heap.size wr w3 → UseLoop ct co cv g b bo M (fun u => A u ∨ u = name) lO name ns w2 (k + 1) w3) := Lib.hid fun w3 hb => ⟨lO', HU.out.below hb, HUV.out, HMO.out, fun u hu hd => by
              rw [HT.out] at hu
              rcases List.mem_append.1 hu with hu | hu
              · exact HDO.out u hu hd
              · rw [List.mem_singleton] at hu; subst hu
                rw [HTB.out]; exact hyes, HSO.out, HK.out.trans (.of_below hb)⟩
            clear h1 h2 hyes hst hxm hxn hpq hx
            go_wp2_with fail
            go_roundw
            case rel => exact ⟨k + 1, by omega, by go_num, HR.out _ (by (repeat (first | exact Below.refl _ _ | refine Below.drew ?_ | (refine below_gw' ?_ (by first | omega | (simp [go_sem]; done) | (simp [go_sem]; omega)) _) | (refine Below.alloc ?_ (by first | omega | (simp [go_sem]; done) | (simp [go_sem]; omega)) _) | (refine Below.setCell ?_ (by first | omega | (simp [go_sem]; done) | (simp [go_sem]; omega)) _))))⟩
            case measure => simp [intOf]; omega
      · obtain rfl : k = ns.length := by omega
        clear huw huv hmono hdone hsound hk2 hck
        go_wp2_with fail
        go_end0
        have hall : ∀ t, Dep (M.map Prod.fst) name t → seenS lO' t := fun t hd => by
          obtain ⟨h1, h2⟩ := (HDEP.out t).1 hd
          have := HDO.out t.data.toList (by rw [List.take_length]; exact h1) h2
          exact this
        refine ⟨rfl, lO', HU.out, fun u v hu hna hd => ?_, HMO.out, hall, HSO.out, (Kb.of_below HB2.out).trans HK.out⟩
        by_cases e : u = name
        · subst e; exact hall v hd
        · exact HUV.out u v hu (fun h => h.elim hna e) hd
end Go.Proofs.YtnjpfhihbjihbaaGreatDoor

/- (*symbols.Table).Uses. -/
namespace Go.Proofs.YtnjpfhihbjihbaaGreatDoor
open Go.RowKit Go.Sort

open Go.ChangeMaps
/-- What Uses leaves: the sorted keys of a set. -/
def UsRes (L : List Sy) (names : List (List UInt8)) (w : World) (e : Ending) (w' : World) : Prop :=
  ∃ lO : List (ByteArray × Value), NmRes (lO.map fun x => x.1.data.toList) w e w' ∧ (lO.map Prod.fst).Nodup ∧ lO.length ≤ L.length ∧ ∀ t, seenS lO t ↔ ∃ nm ∈ names, Leads L ⟨nm.toArray⟩ t
set_option maxHeartbeats 1000000 in
theorem uses_nil (v : Value) (w : World) : Calls Tryz.prog 24 #[.pointer none, v] w fun e w' => e = .returned (.slice none 0 0) ∧ Below w.heap.size w w' := by
  go_enter Tryz.func24, Tryz.ntmps24
  go_wp2_with fail
  go_ret
  exact ⟨rfl, by (repeat (first | exact Below.refl _ _ | refine Below.drew ?_ | (refine below_gw' ?_ (by first | omega | (simp [go_sem]; done) | (simp [go_sem]; omega)) _) | (refine Below.alloc ?_ (by first | omega | (simp [go_sem]; done) | (simp [go_sem]; omega)) _) | (refine Below.setCell ?_ (by first | omega | (simp [go_sem]; done) | (simp [go_sem]; omega)) _)))⟩
theorem us_init (g b : Nat) (M : List (Sy × Value)) (w : World) (hT : TabIn w g b M) : UseW (((((w.alloc (.cells #[.pointer (some ⟨g, 0, none⟩)] 25)).alloc (.map #[] 0)).alloc (.cells #[.map (some (w.heap.size + 1))] 98)).alloc (.cells #[.func (.func 54) #[] #[.pointer (some ⟨w.heap.size, 0, none⟩), .pointer (some ⟨w.heap.size + 1 + 1, 0, none⟩), .pointer (some ⟨w.heap.size + 1 + 1 + 1, 0, none⟩)]] 99))) w.heap.size (w.heap.size + 1 + 1) (w.heap.size + 1 + 1 + 1) g b (w.heap.size + 1) M [] := by
  have hb := hT.map.lt
  refine ⟨by simp [go_sem], by simp [go_sem], by simp [go_sem], hT.below (by (repeat (first | exact Below.refl _ _ | refine Below.drew ?_ | (refine below_gw' ?_ (by first | omega | (simp [go_sem]; done) | (simp [go_sem]; omega)) _) | (refine Below.alloc ?_ (by first | omega | (simp [go_sem]; done) | (simp [go_sem]; omega)) _) | (refine Below.setCell ?_ (by first | omega | (simp [go_sem]; done) | (simp [go_sem]; omega)) _)))), .new ?_, fun t v h => by (cases h), by omega⟩
  show (Array.push (Array.push (Array.push (Array.push w.heap _) _) _) _)[_]? = _
  simp only [Array.getElem?_push, Array.size_push]
  repeat (first | rw [if_neg (by omega)] | rw [if_pos (by omega)] | rw [if_pos trivial])
/-- What holds at the head of the loop of Uses. -/
def UsLoop (ct co cv g b bo : Nat) (M : List (Sy × Value)) (names : List (List UInt8)) (w : World) (k : Nat) (wr : World) : Prop :=
  ∃ lO, UseW wr ct co cv g b bo M lO ∧ UInv (M.map Prod.fst) (fun _ => False) (seenS lO) ∧ (∀ nm ∈ names.take k, ∀ t, Dep (M.map Prod.fst) ⟨nm.toArray⟩ t → seenS lO t) ∧ (∀ t, seenS lO t → ∃ nm ∈ names.take k, Leads (M.map Prod.fst) ⟨nm.toArray⟩ t) ∧ Below w.heap.size w wr
theorem seen_mem (l : List (ByteArray × Value)) (t : ByteArray) : seenS l t ↔ t ∈ l.map Prod.fst := by
  unfold seenS
  constructor
  · intro h
    obtain ⟨v, hv⟩ := Option.isSome_iff_exists.1 h
    exact List.mem_map_of_mem (f := Prod.fst) (sget_mem hv)
  · intro h
    rcases hs : sget l t with _ | v
    · obtain ⟨x, hx, e⟩ := List.mem_map.1 h
      exact absurd e (sget_none hs x hx)
    · rfl
theorem leads_def {L : List Sy} {a b : ByteArray} (h : Leads L a b) : ∃ s, sfindS L b = some s := by
  cases h with
  | one d => obtain ⟨_, _, _, h⟩ := d; exact h
  | more _ d => obtain ⟨_, _, _, h⟩ := d; exact h
set_option maxHeartbeats 4000000 in
set_option maxRecDepth 100000 in
theorem uses_any (g b : Nat) (M : List (Sy × Value)) (hok : ∀ x ∈ M, SyOk x.1) (hM : M.length ≤ 1000) (hnm : ∀ x ∈ M, x.1.name.size ≤ 1000) (names : List (List UInt8)) (hlen : names.length ≤ 1000000) (v : Value) (w : World) (hT : TabIn w g b M) (hr : Row w v names.length (names.map Proofs.encStr)) :
    Calls Tryz.prog 24 #[.pointer (some ⟨g, 0, none⟩), v] w (UsRes (M.map Prod.fst) names w) := by
  have hg : g < w.heap.size := lt_of_block hT.head
  have hmk : ∀ w : World, (Instr.makeMap 98 none).run Tryz.prog w = .ok (.map (some w.heap.size)) (w.alloc (.map #[] 0)) := fun w => by simp [Instr.makeMap]
  have hin := us_init g b M w hT
  obtain ⟨a, cap, rfl, hcap, hc⟩ := hr.strs
  have hl1 : (names.length : Int) ≤ 1000000 := by omega
  have hc1 : (names.length : Int) ≤ (cap : Int) := by omega
  have hnd := hT.nodup
  have HT := Lib.hid hT
  have HIN := Lib.hid hin
  have HC := Lib.hid hc
  have HOK := Lib.hid hok
  have HNM := Lib.hid hnm
  clear hin hc hr hT hok hnm
  go_enter Tryz.func24, Tryz.ntmps24
  go_wp2_with fail
  go_loopw [15] (fun i wr => ∃ k : Nat, k ≤ names.length ∧ i = .int .i64 k ∧ UsLoop w.heap.size (w.heap.size + 1 + 1) (w.heap.size + 1 + 1 + 1) g b (w.heap.size + 1) M names w k wr) (fun i _ => names.length - (intOf i).toNat)
  case atStart => exact ⟨0, Nat.zero_le _, rfl, [], HIN.out, fun u v h => by simp [seenS, sget] at h, fun nm h => by simp at h, fun t h => by simp [seenS, sget] at h, by (repeat (first | exact Below.refl _ _ | refine Below.drew ?_ | (refine below_gw' ?_ (by first | omega | (simp [go_sem]; done) | (simp [go_sem]; omega)) _) | (refine Below.alloc ?_ (by first | omega | (simp [go_sem]; done) | (simp [go_sem]; omega)) _) | (refine Below.setCell ?_ (by first | omega | (simp [go_sem]; done) | (simp [go_sem]; omega)) _)))⟩
  case round =>
    obtain ⟨k, hk, rfl, lO, huw, huv, hdone, hsound, hbel⟩ := hrel
    have d4 := huw.o
    have d5 := huw.v
    have l4 := cell_lt d4
    have l5 := cell_lt d5
    have HU := Lib.hid huw
    have HUV := Lib.hid huv
    have HDO := Lib.hid hdone
    have HSO := Lib.hid hsound
    have HBEL := Lib.hid hbel
    clear HIN hmk
    by_cases hlt : k < names.length
    · obtain ⟨t, ht⟩ : ∃ t, names[k]? = some t := ⟨_, List.getElem?_eq_getElem hlt⟩
      obtain ⟨gr, o, rfl, hgr, hcs⟩ := HC.out (by rintro rfl; simp at ht)
      have f0 := (hbel.cell (p := ⟨gr, o + k, none⟩) hgr).trans (hcs k t ht)
      have HS : Hid (names.take (k + 1) = names.take k ++ [t]) := Lib.hid (by rw [List.take_add_one, ht]; rfl)
      have hcall := use_any _ _ _ _ _ _ M HOK.out _ ⟨t.toArray⟩ (fun _ => False) wr lO (Nat.le_refl _) HU.out (fun u v hu hna hd => HUV.out u v hu (fun h => h) hd)
      have HCALL := Lib.hid hcall
      have hi0 : (0 : Int) ≤ (k : Int) := by omega
      have hi1 : (k : Int) < (names.length : Int) := by omega
      have l3 := cell_lt f0
      clear huw huv hdone hsound hbel hcs hcall ht
      go_wp2_with fail
      (with_reducible refine HCALL.out.mono ?_)
      rintro e w4 ⟨rfl, lO4, hu4, hv4, hm4, hd4, hs4, hk4⟩
      have HR : Hid (UsLoop w.heap.size (w.heap.size + 1 + 1) (w.heap.size + 1 + 1 + 1) g b (w.heap.size + 1) M names w (k + 1) w4) := Lib.hid ⟨lO4, hu4, hv4, fun nm hn u hd => by
        rw [HS.out] at hn
        rcases List.mem_append.1 hn with hn | hn
        · exact hm4 u (HDO.out nm hn u hd)
        · rw [List.mem_singleton] at hn; subst hn; exact hd4 u hd, fun u hu => by
        rw [HS.out]
        rcases hs4 u hu with h | h
        · obtain ⟨nm, hn, hl⟩ := HSO.out u h
          exact ⟨nm, List.mem_append.2 (.inl hn), hl⟩
        · exact ⟨t, by simp, h⟩, HBEL.out.trans (hk4.low (by omega) HBEL.out.size)⟩
      clear hu4 hv4 hm4 hd4 hs4 hk4
      go_wp2_with fail
      go_roundw
      case rel => exact ⟨k + 1, by omega, by go_num, HR.out⟩
      case measure => simp [intOf]; omega
    · obtain rfl : k = names.length := by omega
      rw [List.take_length] at hdone hsound
      have hiff : ∀ t, seenS lO t ↔ ∃ nm ∈ names, Leads (M.map Prod.fst) ⟨nm.toArray⟩ t := fun t => by
        constructor
        · exact hsound t
        · rintro ⟨nm, hn, hl⟩
          induction hl with
          | one d => exact hdone nm hn _ d
          | more _ d ih => exact huv _ _ ih (fun h => h) d
      have hlen2 : lO.length ≤ M.length := by
        have h1 := nodup_len huw.om.nodup (m := (M.map Prod.fst).map Sy.name) fun t ht => by
          obtain ⟨nm, _, hl⟩ := (hiff t).1 ((seen_mem lO t).2 ht)
          obtain ⟨s, hs⟩ := leads_def hl
          obtain ⟨h1, h2⟩ := sfindS_some hs
          rw [← h2]; exact List.mem_map_of_mem h1
        simpa using h1
      have hsize : ∀ x ∈ lO, x.1.size ≤ maxLen := fun x hx => by
        obtain ⟨nm, _, hl⟩ := (hiff x.1).1 ((seen_mem lO x.1).2 (List.mem_map_of_mem (f := Prod.fst) hx))
        obtain ⟨s, hs⟩ := leads_def hl
        obtain ⟨h1, h2⟩ := sfindS_some hs
        obtain ⟨y, hy, e⟩ := List.mem_map.1 h1
        have := HNM.out y hy
        rw [← h2, ← e]; unfold maxLen; omega
      have hsizeW := hbel.size
      obtain ⟨D, hown, hsz, hperm⟩ := huw.om.own (P := Tryz.prog) Tryz.underlying9 (by unfold maxLen; omega) hsize
      have hkeys := fun w => callsIn_wide.1 (Tryz.maps_Keys_55 (some (w.heap.size)) w)
      have hkeys2 := fun w0 => callsIn_wide.1 (Tryz.maps_Keys_55 (some (w.heap.size + 1)) w0)
      have hsort := callsIn_wide.1 (Tryz.slices_Sorted_keys_50_55 (w.heap.size + 1) _ D noRead wr hown (by rw [hsz]; unfold maxLen; omega) (by rw [hsz]; omega))
      have HP := Lib.hid (sortL_perm hperm)
      have HK := Lib.hid hkeys2
      have HS := Lib.hid hsort
      have HND := Lib.hid huw.om.nodup
      have HIFF := Lib.hid hiff
      clear hkeys hkeys2 hsort hperm hown hsz huw huv hdone hsound hsize hiff hnd
      go_wp2_with fail
      (with_reducible refine (HK.out _).mono ?_)
      rintro e w1 ⟨rfl, rfl⟩
      go_wp2_with fail
      (with_reducible refine HS.out.mono ?_)
      rintro e w2 ⟨v, ss, rfl, hperm, hrow, hnil, hb⟩
      have hss : sortL ss = sortL (lO.map fun x => x.1.data.toList) := by rw [← HP.out]; exact sortL_perm hperm
      have HSS := Lib.hid hss
      have HROW := Lib.hid hrow
      have HNIL := Lib.hid hnil
      have HB : Hid (Below w.heap.size w w2) := Lib.hid (HBEL.out.trans (Below.mono (Below.trans (b := wr.alloc (.cells #[.map (some (w.heap.size + 1))] 98)) (show Below wr.heap.size wr _ by (repeat (first | exact Below.refl _ _ | refine Below.drew ?_ | (refine below_gw' ?_ (by first | omega | (simp [go_sem]; done) | (simp [go_sem]; omega)) _) | (refine Below.alloc ?_ (by first | omega | (simp [go_sem]; done) | (simp [go_sem]; omega)) _) | (refine Below.setCell ?_ (by first | omega | (simp [go_sem]; done) | (simp [go_sem]; omega)) _)))) (hb.mono (by show _ ≤ (wr.heap.push _).size; simp))) hsizeW))
      clear hss hrow hnil hb hperm
      go_wp2_with fail
      go_ret
      refine ⟨lO, ⟨v, rfl, ?_, ?_, HB.out⟩, HND.out, by rw [List.length_map]; exact hlen2, HIFF.out⟩
      · rw [← HSS.out, sortL_len]
        exact own_base HROW.out (by show _ ≤ (wr.heap.push _).size; simp; omega)
      · rw [HNIL.out, ← HSS.out]
        constructor
        · rintro rfl; exact List.eq_nil_of_length_eq_zero (sortL_len [])
        · intro h
          have := sortL_len ss
          rw [h] at this
          exact List.eq_nil_of_length_eq_zero (by simpa using this.symm)
end Go.Proofs.YtnjpfhihbjihbaaGreatDoor

/- breadboardref20.Uses. -/
namespace Go.Proofs.YtnjpfhihbjihbaaGreatDoor
open Go.RowKit Go.Sort

/-- What holds at the head of the outer loop: out, wait (the names and out), i looked at. -/
structure RU (L : List Sy) (names out : List (List UInt8)) (i : Nat) : Prop where
  nodup : out.Nodup
  sound : ∀ t ∈ out, ∃ nm ∈ names, Leads L ⟨nm.toArray⟩ ⟨t.toArray⟩
  done : ∀ nm ∈ (names ++ out).take i, ∀ t, Dep L ⟨nm.toArray⟩ t → t.data.toList ∈ out
theorem RU.start (L : List Sy) (names : List (List UInt8)) : RU L names [] 0 := ⟨List.nodup_nil, (fun t h => by cases h), fun nm h => by simp at h⟩
theorem arr_eq (s : ByteArray) : (⟨s.data.toList.toArray⟩ : ByteArray) = s := by simp
theorem RU.len {L : List Sy} {names out : List (List UInt8)} {i : Nat} (h : RU L names out i) : out.length ≤ L.length := by
  have h1 := nodup_len h.nodup (m := L.map fun s => s.name.data.toList) fun t ht => by
    obtain ⟨nm, _, hl⟩ := h.sound t ht
    obtain ⟨s, hs⟩ := leads_def hl
    obtain ⟨h1, h2⟩ := sfindS_some hs
    rw [List.mem_map]
    exact ⟨s, h1, by rw [h2]⟩
  simpa using h1
/-- What the reference's list has in the end. -/
theorem RU.mem {L : List Sy} {names out : List (List UInt8)} {i : Nat} (h : RU L names out i) (hi : (names ++ out).length ≤ i) (t : ByteArray) : t.data.toList ∈ out ↔ ∃ nm ∈ names, Leads L ⟨nm.toArray⟩ t := by
  have hd := h.done
  rw [List.take_of_length_le hi] at hd
  constructor
  · intro ht
    obtain ⟨nm, hn, hl⟩ := h.sound _ ht
    rw [arr_eq] at hl
    exact ⟨nm, hn, hl⟩
  · rintro ⟨nm, hn, hl⟩
    induction hl with
    | one d => exact hd nm (List.mem_append.2 (.inl hn)) _ d
    | more _ d ih =>
      refine hd _ (List.mem_append.2 (.inr ih)) _ ?_
      rw [arr_eq]; exact d
/-- In the inner loop: the names of the symbol at i, the first k of them looked at. -/
structure RUin (L : List Sy) (names out : List (List UInt8)) (i : Nat) (nm : List UInt8) (ns : List (List UInt8)) (k : Nat) : Prop where
  ru : RU L names out i
  part : ∀ t ∈ ns.take k, (∃ s, sfindS L ⟨t.toArray⟩ = some s) → t ∈ out
theorem RU.into {L : List Sy} {names out : List (List UInt8)} {i : Nat} (h : RU L names out i) (nm : List UInt8) (ns : List (List UInt8)) : RUin L names out i nm ns 0 := ⟨h, fun t ht => by simp at ht⟩
theorem RUin.skip {L : List Sy} {names out : List (List UInt8)} {i k : Nat} {nm t : List UInt8} {ns : List (List UInt8)} (h : RUin L names out i nm ns k) (ht : ns[k]? = some t) (hs : (∃ s, sfindS L ⟨t.toArray⟩ = some s) → t ∈ out) : RUin L names out i nm ns (k + 1) :=
  ⟨h.ru, fun u hu hd => by
    rw [List.take_add_one, ht] at hu
    rcases List.mem_append.1 hu with hu | hu
    · exact h.part u hu hd
    · simp only [Option.toList_some, List.mem_singleton] at hu
      subst hu; exact hs hd⟩
theorem take_append_le {α : Type} (l m : List α) (i : Nat) (h : i ≤ l.length) : (l ++ m).take i = l.take i := by
  rw [List.take_append_of_le_length h]
theorem RUin.add {L : List Sy} {names out : List (List UInt8)} {i k : Nat} {nm t : List UInt8} {ns : List (List UInt8)} (h : RUin L names out i nm ns k) (ht : ns[k]? = some t) (hn : t ∉ out) (hnm : (names ++ out)[i]? = some nm) (hd : Dep L ⟨nm.toArray⟩ ⟨t.toArray⟩) : RUin L names (out ++ [t]) i nm ns (k + 1) := by
  have hlt := (List.getElem?_eq_some_iff.1 hnm).1
  refine ⟨⟨?_, fun u hu => ?_, fun n2 hn2 u hu => ?_⟩, fun u hu hdd => ?_⟩
  · rw [List.nodup_append]
    exact ⟨h.ru.nodup, by simp, fun a ha b hb e => by rw [List.mem_singleton] at hb; subst hb; subst e; exact hn ha⟩
  · rcases List.mem_append.1 hu with hu | hu
    · exact h.ru.sound u hu
    · rw [List.mem_singleton] at hu; subst hu
      rcases List.mem_append.1 (List.mem_of_getElem? hnm) with hm | hm
      · exact ⟨nm, hm, .one hd⟩
      · obtain ⟨n0, h0, hl⟩ := h.ru.sound nm hm
        exact ⟨n0, h0, .more hl hd⟩
  · rw [← List.append_assoc, take_append_le _ _ _ (Nat.le_of_lt hlt)] at hn2
    exact List.mem_append.2 (.inl (h.ru.done n2 hn2 u hu))
  · rw [List.take_add_one, ht] at hu
    rcases List.mem_append.1 hu with hu | hu
    · exact List.mem_append.2 (.inl (h.part u hu hdd))
    · simp only [Option.toList_some, List.mem_singleton] at hu
      subst hu; simp
theorem RUin.outof {L : List Sy} {names out : List (List UInt8)} {i : Nat} {nm : List UInt8} {ns : List (List UInt8)} {k : Nat} (h : RUin L names out i nm ns k) (hk : ns.length ≤ k) (hnm : (names ++ out)[i]? = some nm) (hns : ∀ t, Dep L ⟨nm.toArray⟩ t → t.data.toList ∈ ns) : RU L names out (i + 1) := by
  refine ⟨h.ru.nodup, h.ru.sound, fun n2 hn2 t hd => ?_⟩
  rw [List.take_add_one, hnm] at hn2
  rcases List.mem_append.1 hn2 with h1 | h1
  · exact h.ru.done n2 h1 t hd
  · simp only [Option.toList_some, List.mem_singleton] at h1
    subst h1
    have hp := h.part t.data.toList (by rw [List.take_of_length_le hk]; exact hns t hd)
    rw [arr_eq] at hp
    obtain ⟨_, _, _, hdef⟩ := hd
    exact hp hdef
/-- Three rows of one's own in three blocks. -/
structure Three (w : World) (B : Nat) (vo vw vn : Value) (out wait ns : List (List UInt8)) : Prop where
  o : w.ownsRow B 9 1 vo out.length (out.map Proofs.encStr)
  nil : out = [] → vo = .slice none 0 0
  wt : w.ownsRow B 9 1 vw wait.length (wait.map Proofs.encStr)
  n : w.ownsRow B 9 1 vn ns.length (ns.map Proofs.encStr)
  ow : ∀ g, vo.ownBlock = some g → vw.ownBlock ≠ some g
  on : ∀ g, vo.ownBlock = some g → vn.ownBlock ≠ some g
  wn : ∀ g, vw.ownBlock = some g → vn.ownBlock ≠ some g
theorem blk_lt {w : World} {base : Nat} {e : TypeId} {size : Nat} {v : Value} {n : Nat} {xs : List Value} (h : w.ownsRow base e size v n xs) : ∀ k, v.ownBlock = some k → k < w.heap.size := fun k hk => by
  rcases h.2 with ⟨h1, _⟩ | ⟨g, cap, cur, h1, hg, hh, _⟩
  · rw [h1] at hk; cases hk
  · rw [h1] at hk; cases hk; exact lt_of_block hh
theorem Three.below {w w' : World} {B : Nat} {vo vw vn : Value} {out wait ns : List (List UInt8)} (h : Three w B vo vw vn out wait ns) (hb : Below w.heap.size w w') : Three w' B vo vw vn out wait ns :=
  ⟨owns_below' h.o hb, h.nil, owns_below' h.wt hb, owns_below' h.n hb, h.ow, h.on, h.wn⟩
theorem kept_of {w w' : World} {base : Nat} {e : TypeId} {size : Nat} {v : Value} {n : Nat} {xs : List Value} {row : Option Nat} (h : w.ownsRow base e size v n xs) (hg : w.grownBy w' row) (hne : ∀ g, row = some g → v.ownBlock ≠ some g) : w'.ownsRow base e size v n xs := by
  refine h.kept hg ?_
  rcases hv : v.ownBlock with _ | g
  · exact .inl rfl
  · right
    intro e
    exact hne g e.symm hv
theorem Three.addO {w w' : World} {B : Nat} {vo vw vn v' : Value} {out wait ns : List (List UInt8)} {t : List UInt8} (h : Three w B vo vw vn out wait ns) (ho : w'.ownsRow B 9 1 v' (out.length + 1) (out.map Proofs.encStr ++ [Proofs.encStr t])) (hg : w.grownBy w' vo.ownBlock) (hb : v'.ownBlock = vo.ownBlock ∨ v'.ownBlock = some w.heap.size) : Three w' B v' vw vn (out ++ [t]) wait ns := by
  refine ⟨by rw [List.length_append, List.map_append]; exact ho, fun e => by simp at e, kept_of h.wt hg h.ow, kept_of h.n hg h.on, fun g hv => ?_, fun g hv => ?_, h.wn⟩
  · rcases hb with hb | hb
    · exact h.ow g (by rw [← hb]; exact hv)
    · rw [hb] at hv; cases hv
      intro e; exact absurd (blk_lt h.wt _ e) (Nat.lt_irrefl _)
  · rcases hb with hb | hb
    · exact h.on g (by rw [← hb]; exact hv)
    · rw [hb] at hv; cases hv
      intro e; exact absurd (blk_lt h.n _ e) (Nat.lt_irrefl _)
theorem Three.addW {w w' : World} {B : Nat} {vo vw vn v' : Value} {out wait ns : List (List UInt8)} {t : List UInt8} (h : Three w B vo vw vn out wait ns) (ho : w'.ownsRow B 9 1 v' (wait.length + 1) (wait.map Proofs.encStr ++ [Proofs.encStr t])) (hg : w.grownBy w' vw.ownBlock) (hb : v'.ownBlock = vw.ownBlock ∨ v'.ownBlock = some w.heap.size) : Three w' B vo v' vn out (wait ++ [t]) ns := by
  refine ⟨kept_of h.o hg (fun g hv e => h.ow g e hv), h.nil, by rw [List.length_append, List.map_append]; exact ho, kept_of h.n hg h.wn, fun g hv e => ?_, h.on, fun g hv => ?_⟩
  · rcases hb with hb | hb
    · rw [hb] at e; exact h.ow g hv e
    · rw [hb] at e; cases e
      exact absurd (blk_lt h.o _ hv) (Nat.lt_irrefl _)
  · rcases hb with hb | hb
    · exact h.wn g (by rw [← hb]; exact hv)
    · rw [hb] at hv; cases hv
      intro e; exact absurd (blk_lt h.n _ e) (Nat.lt_irrefl _)
end Go.Proofs.YtnjpfhihbjihbaaGreatDoor

/- A slice of strings as an argument, opened. -/
namespace Go.Proofs.YtnjpfhihbjihbaaGreatDoor
open Go.RowKit Go.Sort

open Go.ChangeShapes Go.WideShapes
instance : Inhabited (List UInt8) := ⟨[]⟩
def strc1 (s : List UInt8) : List Value := [Proofs.encStr s]
theorem strc1_flat (l : List (List UInt8)) : l.flatMap strc1 = l.map Proofs.encStr := by
  induction l with
  | nil => rfl
  | cons a l ih => rw [List.flatMap_cons, ih]; rfl
set_option maxRecDepth 100000 in
theorem open_strs {H : Type} {enc : TypeId × Value → H} {W w : World} {r : Reach} {base b0 : Nat} {spare : Nat → Bool} {held : Bool} {v : Value} {d : DataW H} {p : List MemPlace}
    (hv : Value.okWide Tryz.prog w r b0 45 v) (h : DataW.Trod enc Tryz.prog W base spare held 45 v d p) : ∃ L : List (List UInt8), Row W v L.length (L.map Proofs.encStr) ∧ L.length ≤ maxLen ∧ (v = .slice none 0 0 ∨ ∃ ad n c, v = .slice (some ad) n c) := by
  obtain ⟨L, h1, h2, _⟩ := open_structs strc1 (fun _ => True) 1 (fun _ => rfl) (by decide) Tryz.underlying45 (by kernel_rfl) (fun cs n y hl hy => by
    match cs, hl with
    | [u0], _ =>
      obtain ⟨z0, k0, _, _⟩ := DataW.trod_string Tryz.underlying9 hy
      simp at k0
      subst k0
      refine ⟨z0.data.toList, ?_, trivial⟩
      show [Value.string z0] = [Value.string ⟨z0.data.toList.toArray⟩]
      simp) hv h
  rw [strc1_flat] at h1
  refine ⟨L, h1, h2, ?_⟩
  obtain ⟨a, len, cap, rfl⟩ := Go.WideShapes.okWide_slice Tryz.underlying45 hv
  obtain ⟨fuel, hf⟩ := h
  rcases Deep.open_slice Tryz.underlying45 hf with ⟨he, _⟩ | ⟨a', len', cap', m, n, D, Pl, he, _⟩
  · simp [Value.cells] at he
    obtain ⟨rfl, rfl, rfl⟩ := he
    exact .inl rfl
  · simp [Value.cells] at he
    obtain ⟨rfl, rfl, rfl⟩ := he
    exact .inr ⟨_, _, _, rfl⟩
theorem src_strs {w : World} {v : Value} {L : List (List UInt8)} (h : Row w v L.length (L.map Proofs.encStr)) (hs : v = .slice none 0 0 ∨ ∃ ad n c, v = .slice (some ad) n c) : SrcAt w v L.length (L.map Proofs.encStr) := by
  obtain ⟨a, cap, hv, hc, hr⟩ := h
  by_cases hL : L = []
  · subst hL
    rcases hs with rfl | ⟨ad, n, c, rfl⟩
    · exact .inl ⟨rfl, rfl⟩
    · cases hv
      exact .inr ⟨ad, cap, rfl, fun j u hj => by simp at hj⟩
  · right
    obtain ⟨g, o, ha, hg, hcc⟩ := hr (by simpa using hL)
    refine ⟨⟨g, o, none⟩, cap, by rw [hv, ha], fun j u hj => ?_⟩
    rw [addr_add, hcc j (List.getElem?_eq_some_iff.1 hj).1]
    exact hj
end Go.Proofs.YtnjpfhihbjihbaaGreatDoor

/- breadboardref20.Uses: the walk. -/
namespace Go.Proofs.YtnjpfhihbjihbaaGreatDoor
open Go.RowKit Go.Sort

theorem encs (s : ByteArray) : Proofs.encStr s.data.toList = .string s := by
  show Value.string ⟨s.data.toList.toArray⟩ = .string s
  simp
/-- What the reference's Uses leaves. -/
def RUseRes (L : List Sy) (names : List (List UInt8)) (w : World) (e : Ending) (w' : World) : Prop := ∃ vo out, e = .returned vo ∧ w'.ownsRow w.heap.size 9 1 vo out.length (out.map Proofs.encStr) ∧ (out = [] → vo = .slice none 0 0) ∧ out.Nodup ∧ out.length ≤ L.length ∧ (∀ t : ByteArray, t.data.toList ∈ out ↔ ∃ nm ∈ names, Leads L ⟨nm.toArray⟩ t) ∧ Below w.heap.size w w'
/-- At the head of the outer loop. -/
def RULoop (L : List Sy) (names : List (List UInt8)) (B : Nat) (w : World) (i : Nat) (vo vw : Value) (wr : World) : Prop := ∃ out, Three wr B vo vw (.slice none 0 0) out (names ++ out) [] ∧ RU L names out i ∧ i ≤ (names ++ out).length ∧ Below w.heap.size w wr
/-- At the head of the inner loop. -/
def RUiLoop (L : List Sy) (names ns : List (List UInt8)) (nm : List UInt8) (B : Nat) (w : World) (i k : Nat) (vn vo vw : Value) (wr : World) : Prop := ∃ out, Three wr B vo vw vn out (names ++ out) ns ∧ RUin L names out i nm ns k ∧ (names ++ out)[i]? = some nm ∧ Below w.heap.size w wr
set_option maxHeartbeats 4000000 in
set_option maxRecDepth 100000 in
theorem ruses_any (R : List (Sy × Value)) (hok : ∀ x ∈ R, SyOk x.1) (hl : R.length ≤ 1000) (names : List (List UInt8)) (hnl : names.length ≤ 1000) (v vn : Value) (w : World) (hRT : RTab w v R) (hrn : Row w vn names.length (names.map Proofs.encStr)) (hsh : vn = .slice none 0 0 ∨ ∃ ad n c, vn = .slice (some ad) n c) :
    Calls Tryz.prog 23 #[v, vn] w (RUseRes (R.map Prod.fst) names w) := by
  obtain ⟨i0, hi, hz0, hz1, hz2⟩ := info_parts Tryz.infoString
  obtain ⟨a, cap, rfl, hcap, hc⟩ := hRT.parts
  have hl1 : (R.length : Int) ≤ 1000 := by omega
  have hc1 : (R.length : Int) ≤ (cap : Int) := by omega
  have HC := Lib.hid hc
  have HRT := Lib.hid hRT
  have HOK := Lib.hid hok
  have HRN := Lib.hid hrn
  have HSH := Lib.hid hsh
  have hLl : (R.map Prod.fst).length = R.length := by simp
  have HLL := Lib.hid hLl
  obtain ⟨L, hLF⟩ : ∃ L, R.map Prod.fst = L := ⟨_, rfl⟩
  have HLF := Lib.hid hLF
  have HGET : Hid (∀ (k : Nat) (x : Sy × Value), R[k]? = some x → (R.map Prod.fst)[k]? = some x.1) := Lib.hid fun k x h => by rw [List.getElem?_map, h]; rfl
  clear hc hRT hok hrn hsh hLl
  rw [hLF] at HLL HGET ⊢
  clear hLF
  go_enter Tryz.func23, Tryz.ntmps23
  go_wp2_with (at_builtin; refine wpList_append_src rfl _ _ 45 rfl w.heap.size 9 i0 (.string ⟨#[]⟩) 1 16 Tryz.underlying45 hi hz0 hz1 hz2 rfl (by decide) _ 0 [] rfl (own_empty (alloc_at' _ _) (Nat.le_refl _)) _ names.length (names.map Proofs.encStr) rfl (src_strs (HRN.out.below (by (repeat (first | exact Below.refl _ _ | refine Below.drew ?_ | (refine below_gw' ?_ (by first | omega | (simp [go_sem]; done) | (simp [go_sem]; omega)) _) | (refine Below.alloc ?_ (by first | omega | (simp [go_sem]; done) | (simp [go_sem]; omega)) _) | (refine Below.setCell ?_ (by first | omega | (simp [go_sem]; done) | (simp [go_sem]; omega)) _))))) HSH.out) (by rw [List.length_map, Nat.mul_one]) (enc_one _) (by unfold maxLen; omega) (by omega) (by (first | omega | (simp [go_sem]; done) | (simp [go_sem]; omega))) ?_)
  intro v1 w1 hown1 hg1 hn1
  try simp only [Nat.zero_add, List.nil_append] at hown1
  have hb1 : Below w.heap.size w w1 := Below.grown (show Below w.heap.size w _ by (repeat (first | exact Below.refl _ _ | refine Below.drew ?_ | (refine below_gw' ?_ (by first | omega | (simp [go_sem]; done) | (simp [go_sem]; omega)) _) | (refine Below.alloc ?_ (by first | omega | (simp [go_sem]; done) | (simp [go_sem]; omega)) _) | (refine Below.setCell ?_ (by first | omega | (simp [go_sem]; done) | (simp [go_sem]; omega)) _)))) hg1 (by (first | omega | (simp [go_sem]; done) | (simp [go_sem]; omega))) (fun q hq => by have h := Option.some.inj hq; dsimp only at h; omega)
  have H0 : Hid (RULoop L names w.heap.size w 0 (.slice none 0 0) v1 w1) := Lib.hid ⟨[], ⟨World.ownsRow_nil _ _ _ _, fun _ => rfl, by rw [List.append_nil]; exact hown1, World.ownsRow_nil _ _ _ _, (fun g h => by cases h), (fun g h => by cases h), fun g h e => by cases e⟩, RU.start L names, Nat.zero_le _, hb1⟩
  clear hown1 hg1 hn1 hb1
  go_wp2_with fail
  go_loopw [5, 6, 7] (fun u s i wr => ∃ k : Nat, i = .int .i64 k ∧ RULoop L names w.heap.size w k u s wr) (fun _ _ i _ => names.length + 1000 + 1 - (intOf i).toNat)
  case atStart => exact ⟨0, rfl, H0.out⟩
  case round =>
    obtain ⟨k, rfl, out, hth, hru, hki, hbel⟩ := hrel
    have hol := hru.len
    have hLl := HLL.out
    obtain ⟨wait, hwt⟩ : ∃ x, names ++ out = x := ⟨_, rfl⟩
    have hwl : wait.length = names.length + out.length := by rw [← hwt, List.length_append]
    rw [hwt] at hth hki
    have HWT := Lib.hid hwt
    have HTH := Lib.hid hth
    have HRU := Lib.hid hru
    have HBEL := Lib.hid hbel
    have hszr := hbel.size
    have HWL := Lib.hid hwl
    have hw2 : wait.length ≤ 3000 := by omega
    have ho2 : out.length ≤ 1000 := by omega
    have hk2 : k ≤ names.length + 1000 := by omega
    obtain ⟨aw, capw, rfl, hcapw, hcw⟩ := (Row.of_owns hth.wt).strs
    have hww : (wait.length : Int) ≤ 3000 := by omega
    have hwc : (wait.length : Int) ≤ (capw : Int) := by omega
    have HCW := Lib.hid hcw
    clear hth hru hbel hcw H0 hwl hol hwt
    by_cases hlt : k < wait.length
    · obtain ⟨nm, hnm⟩ : ∃ nm, wait[k]? = some nm := ⟨_, List.getElem?_eq_getElem hlt⟩
      obtain ⟨gw_, ow_, rfl, hgw, hcsw⟩ := HCW.out (by intro e; rw [e] at hnm; simp at hnm)
      have f0 := hcsw k nm hnm
      obtain ⟨nb, hnb⟩ : ∃ nb : ByteArray, (⟨nm.toArray⟩ : ByteArray) = nb := ⟨_, rfl⟩
      rw [hnb] at f0
      have HNB := Lib.hid hnb
      have hi0 : (0 : Int) ≤ (k : Int) := by omega
      have hi1 : (k : Int) < (wait.length : Int) := by omega
      have hfi := find20_any R nb (.slice a R.length cap) wr (HRT.out.below HBEL.out) (by omega)
      rw [HLF.out] at hfi
      have hng := sidx_neg L nb
      have hat := sidx_at L nb
      have hslt := sidx_lt L nb
      generalize sidx L nb = sx at hfi hng hat hslt
      have HFI := Lib.hid hfi
      have HNM : Hid ((names ++ out)[k]? = some nm) := Lib.hid (by rw [HWT.out]; exact hnm)
      clear hfi hnb hcsw hnm HCW
      by_cases hs : sx < 0
      · have hnone := hng.1.1 hs
        have HR : Hid (RU L names out (k + 1)) := Lib.hid (HRU.out.into nm [] |>.outof (k := 0) (Nat.le_refl _) HNM.out (fun t hd => by
          obtain ⟨s, hs2, _⟩ := hd
          rw [HNB.out, hnone] at hs2; cases hs2))
        clear hng hat hnone
        go_wp2_with fail
        (with_reducible refine HFI.out.mono ?_)
        rintro e w3 ⟨rfl, hb3⟩
        have HL : Hid (RULoop L names w.heap.size w (k + 1) u5 (.slice (some ⟨gw_, ow_, none⟩) wait.length capw) w3) := Lib.hid ⟨out, by rw [HWT.out]; exact HTH.out.below hb3, HR.out, by rw [HWT.out]; exact hlt, HBEL.out.trans (hb3.mono hszr)⟩
        clear hb3
        go_wp2_with fail
        go_roundw
        case rel => exact ⟨k + 1, by go_num, HL.out⟩
        case measure => simp [intOf]; omega
      · obtain ⟨s, hget, hfs⟩ := hat (by omega)
        obtain ⟨q, rfl⟩ : ∃ q : Nat, (q : Int) = sx := ⟨sx.toNat, by omega⟩
        rw [Int.toNat_natCast] at hget
        have hqR : q < R.length := by omega
        obtain ⟨x, hx⟩ : ∃ x, R[q]? = some x := ⟨_, List.getElem?_eq_getElem hqR⟩
        have hxs := HGET.out q x hx
        rw [hget] at hxs; cases hxs
        obtain ⟨gr, o, rfl, hgr, hcs⟩ := HC.out (by rintro rfl; simp at hx)
        have f2 := (HBEL.out.cell (p := ⟨gr, o + q * 5 + 2, none⟩) hgr).trans (hcs q x hx).2.2.1
        have hxo := (HRT.out.2 x (List.mem_of_getElem? hx)).below HBEL.out
        have hxk := HOK.out x (List.mem_of_getElem? hx)
        have hno : oNodes x.1.ex ≤ 1000000 := by
          rcases he : x.1.ex with _ | y
          · exact Nat.zero_le _
          · exact (hxk.2.2 y he).2
        obtain ⟨px, hpx⟩ := hxo.ptr
        rw [hpx] at f2 hxo
        have hDEP : ∀ t, Dep L ⟨nm.toArray⟩ t → t.data.toList ∈ oSyms x.1.ex := fun t hd => by
          obtain ⟨s, hs2, hb, _⟩ := hd
          rw [HNB.out, hfs] at hs2; cases hs2
          unfold Sy.syms at hb
          rcases he : x.1.ex with _ | y
          · rw [he] at hb; cases hb
          · rw [he] at hb; exact List.mem_map_of_mem hb
        have hDEP2 : ∀ t ∈ oSyms x.1.ex, (∃ s, sfindS L ⟨t.toArray⟩ = some s) → Dep L ⟨nm.toArray⟩ ⟨t.toArray⟩ := fun t ht hd => by
          refine ⟨x.1, by rw [HNB.out]; exact hfs, ?_, hd⟩
          unfold Sy.syms
          rcases he : x.1.ex with _ | y
          · rw [he] at ht; simp [oSyms] at ht
          · rw [he] at ht
            obtain ⟨b, hb, rfl⟩ := List.mem_map.1 ht
            simpa using hb
        have hrn := fun w3 (hb : Below wr.heap.size wr w3) => rnames17_any (oNodes x.1.ex) x.1.ex (Nat.le_refl _) hno (.pointer px) w3 (hxo.below hb)
        unfold RNRes at hrn
        have hnsl := Nat.le_trans (oSyms_len x.1.ex) hno
        generalize oSyms x.1.ex = ns at hrn hDEP hDEP2 hnsl
        have HRNM := Lib.hid hrn
        have HDEP := Lib.hid hDEP
        have HDEP2 := Lib.hid hDEP2
        have hq0 : (0 : Int) ≤ (q : Int) := by omega
        have hq1 : (q : Int) < (R.length : Int) := by omega
        have hgr2 : gr < wr.heap.size := Nat.lt_of_lt_of_le hgr hszr
        have HHLT := Lib.hid hlt
        clear hrn hDEP hDEP2 hng hat hslt hcs hx hget hfs hxo hxk hno hpx
        go_wp2_with fail
        (with_reducible refine HFI.out.mono ?_)
        rintro e w3 ⟨rfl, hb3⟩
        have f2' := (hb3.cell (p := ⟨gr, o + q * 5 + 2, none⟩) hgr2).trans f2
        have HB3 := Lib.hid hb3
        clear hb3 f0 f2
        go_wp2_with fail
        (with_reducible refine (HRNM.out _ HB3.out).mono ?_)
        rintro e w4 ⟨vns, rfl, hown4, _, hb4⟩
        have hbw4 : Below wr.heap.size wr w4 := HB3.out.trans (hb4.mono HB3.out.size)
        have hth4 := HTH.out.below hbw4
        have hth5 : Three w4 w.heap.size u5 (.slice (some ⟨gw_, ow_, none⟩) wait.length capw) vns out wait ns := ⟨hth4.o, hth4.nil, hth4.wt, own_base hown4 (Nat.le_trans hszr HB3.out.size), hth4.ow, fun g hg e => by
          have a1 := blk_lt HTH.out.o g hg
          have a2 := own_low hown4 g e
          have a3 := HB3.out.size
          omega, fun g hg e => by
          have a1 := blk_lt HTH.out.wt g hg
          have a2 := own_low hown4 g e
          have a3 := HB3.out.size
          omega⟩
        obtain ⟨an, capn, rfl, hcapn, hcn⟩ := (Row.of_owns hown4).strs
        have hni : (ns.length : Int) ≤ 1000000 := by omega
        have hnc : (ns.length : Int) ≤ (capn : Int) := by omega
        have HS4 : Hid (RUiLoop L names ns nm w.heap.size w k 0 (.slice an ns.length capn) u5 (.slice (some ⟨gw_, ow_, none⟩) wait.length capw) w4) := Lib.hid ⟨out, by rw [HWT.out]; exact hth5, HRU.out.into nm ns, HNM.out, HBEL.out.trans (hbw4.mono hszr)⟩
        clear hb4 hbw4 hth4 hth5 hown4 hcn f2' HTH HRU HNM HWT HWL hgr2 hi0 hi1 hww hwc hw2 ho2 hki hcapw hlt hgw HFI HRNM HB3
        go_wp2_with fail
        go_loopw [5, 6, 10] (fun u s i w5 => ∃ m : Nat, m ≤ ns.length ∧ i = .int .i64 m ∧ RUiLoop L names ns nm w.heap.size w k m (.slice an ns.length capn) u s w5) (fun _ _ i _ => ns.length - (intOf i).toNat)
        case atStart => exact ⟨0, Nat.zero_le _, rfl, HS4.out⟩
        case round =>
          obtain ⟨m, hm, rfl, out, hth, hrin, hnm5, hbel5⟩ := hrel
          have hol := hrin.ru.len
          have hLl2 := HLL.out
          obtain ⟨wait, hwt⟩ : ∃ x, names ++ out = x := ⟨_, rfl⟩
          have hwl : wait.length = names.length + out.length := by rw [← hwt, List.length_append]
          rw [hwt] at hth
          have hw2 : wait.length ≤ 3000 := by omega
          have ho2 : out.length ≤ 1000 := by omega
          clear hwl hol hLl2
          have HWT := Lib.hid hwt
          have HTH := Lib.hid hth
          have HRI := Lib.hid hrin
          have HNM := Lib.hid hnm5
          have HBEL5 := Lib.hid hbel5
          have hsz5 := hbel5.size
          by_cases hlm : m < ns.length
          · obtain ⟨t, ht⟩ : ∃ t, ns[m]? = some t := ⟨_, List.getElem?_eq_getElem hlm⟩
            obtain ⟨a2, c2, e2, _, hc2⟩ := (Row.of_owns hth.n).strs
            cases e2
            obtain ⟨gl, ol, rfl, hgl, hcl⟩ := hc2 (by intro e; rw [e] at ht; simp at ht)
            have f0 := hcl m t ht
            obtain ⟨tb, htb⟩ : ∃ tb : ByteArray, (⟨t.toArray⟩ : ByteArray) = tb := ⟨_, rfl⟩
            rw [htb] at f0
            have hten : Proofs.encStr t = .string tb := by rw [← htb]
            have htd : tb.data.toList = t := by rw [← htb]
            have HTEN := Lib.hid hten
            have HTB := Lib.hid htb
            have HT := Lib.hid ht
            have hm0 : (0 : Int) ≤ (m : Int) := by omega
            have hm1 : (m : Int) < (ns.length : Int) := by omega
            have hfi := find20_any R tb (.slice (some ⟨gr, o, none⟩) R.length cap) wr (HRT.out.below HBEL5.out) (by omega)
            rw [HLF.out] at hfi
            have hng := sidx_neg L tb
            generalize sidx L tb = sy at hfi hng
            have HFI := Lib.hid hfi
            have hin := fun w6 (hb : Below wr.heap.size wr w6) => in20_any out tb u5 w6 ((Row.of_owns hth.o).below hb) (by omega)
            rw [htd] at hin
            have HIN := Lib.hid hin
            clear hfi hin hth hrin hnm5 hbel5 hcl ht hten htb htd hwt hc2 HS4
            by_cases hs : sy < 0
            · have hnone := hng.1.1 hs
              have hR : RUin L names out k nm ns (m + 1) := HRI.out.skip HT.out (fun h => by
                obtain ⟨s, h⟩ := h
                rw [HTB.out, hnone] at h; cases h)
              have HR := Lib.hid hR
              have hge : ¬ 0 ≤ sy := by omega
              clear hng hnone hR
              go_wp2_with fail
              (with_reducible refine HFI.out.mono ?_)
              rintro e w6 ⟨rfl, hb6⟩
              have HL : Hid (RUiLoop L names ns nm w.heap.size w k (m + 1) (.slice (some ⟨gl, ol, none⟩) ns.length capn) u5 u6 w6) := Lib.hid ⟨out, by rw [HWT.out]; exact HTH.out.below hb6, HR.out, HNM.out, HBEL5.out.trans (hb6.mono hsz5)⟩
              clear hb6
              go_wp2_with fail
              go_roundw
              case rel => exact ⟨m + 1, by omega, by go_num, HL.out⟩
              case measure => simp [intOf]; omega
            · have hge : 0 ≤ sy := by omega
              have hdef : ∃ s, sfindS L tb = some s := by
                rcases hf : sfindS L tb with _ | s
                · exact absurd (hng.1.2 hf) (by omega)
                · exact ⟨s, rfl⟩
              have HDEF := Lib.hid hdef
              clear hng hdef
              by_cases hmem : t ∈ out
              · have hR : RUin L names out k nm ns (m + 1) := HRI.out.skip HT.out (fun _ => hmem)
                have HR := Lib.hid hR
                have hd : decide (t ∈ out) = true := by simpa using hmem
                rw [hd] at HIN
                clear hR hd hmem
                go_wp2_with fail
                (with_reducible refine HFI.out.mono ?_)
                rintro e w6 ⟨rfl, hb6⟩
                have f6 := (hb6.cell (p := ⟨gl, ol + m, none⟩) hgl).trans f0
                have HB6 := Lib.hid hb6
                clear hb6
                go_wp2_with fail
                (with_reducible refine (HIN.out _ HB6.out).mono ?_)
                rintro e w7 ⟨rfl, hb7⟩
                have HL : Hid (RUiLoop L names ns nm w.heap.size w k (m + 1) (.slice (some ⟨gl, ol, none⟩) ns.length capn) u5 u6 w7) := Lib.hid ⟨out, by rw [HWT.out]; exact (HTH.out.below HB6.out).below hb7, HR.out, HNM.out, (HBEL5.out.trans (HB6.out.mono hsz5)).trans (hb7.mono (Nat.le_trans hsz5 HB6.out.size))⟩
                clear hb7
                go_wp2_with fail
                go_roundw
                case rel => exact ⟨m + 1, by omega, by go_num, HL.out⟩
                case measure => simp [intOf]; omega
              · have hR : RUin L names (out ++ [t]) k nm ns (m + 1) := HRI.out.add HT.out hmem HNM.out (HDEP2.out t (List.mem_of_getElem? HT.out) (by rw [HTB.out]; exact HDEF.out))
                have HR := Lib.hid hR
                have hd : decide (t ∈ out) = false := by simpa using hmem
                rw [hd] at HIN
                clear hR hd hmem
                go_wp2_with fail
                (with_reducible refine HFI.out.mono ?_)
                rintro e w6 ⟨rfl, hb6⟩
                have f6 := (hb6.cell (p := ⟨gl, ol + m, none⟩) hgl).trans f0
                have hg6 : gl < w6.heap.size := Nat.lt_of_lt_of_le hgl hb6.size
                have hsz6 : w.heap.size ≤ w6.heap.size := Nat.le_trans hsz5 hb6.size
                have HTH6 := Lib.hid (HTH.out.below hb6)
                have HBEL6 : Hid (Below w.heap.size w w6) := Lib.hid (HBEL5.out.trans (hb6.mono hsz5))
                have HB6 := Lib.hid hb6
                clear hb6
                go_wp2_with fail
                (with_reducible refine (HIN.out _ HB6.out).mono ?_)
                rintro e w7 ⟨rfl, hb7⟩
                have f7 := (hb7.cell (p := ⟨gl, ol + m, none⟩) hg6).trans f6
                have hg7 : gl < w7.heap.size := Nat.lt_of_lt_of_le hg6 hb7.size
                have hsz7 : w.heap.size ≤ w7.heap.size := Nat.le_trans hsz6 hb7.size
                have HTH7 := Lib.hid (HTH6.out.below hb7)
                have HBEL7 : Hid (Below w.heap.size w w7) := Lib.hid (HBEL6.out.trans (hb7.mono hsz6))
                clear hb7 f6 f0 HTH6 HTH
                go_wp2_with (at_builtin; refine wpList_append_own_at _ rfl _ _ 45 rfl w.heap.size 9 i0 (.string ⟨#[]⟩) 1 16 Tryz.underlying45 hi hz0 hz1 hz2 rfl (by decide) u5 out.length (out.map Proofs.encStr) rfl (owns_below' HTH7.out.o (by (repeat (first | exact Below.refl _ _ | refine Below.drew ?_ | (refine below_gw' ?_ (by first | omega | (simp [go_sem]; done) | (simp [go_sem]; omega)) _) | (refine Below.alloc ?_ (by first | omega | (simp [go_sem]; done) | (simp [go_sem]; omega)) _) | (refine Below.setCell ?_ (by first | omega | (simp [go_sem]; done) | (simp [go_sem]; omega)) _))))) _ 1 1 [.string tb] rfl rfl (cell_one_new _ _ _) (fun u hu => by simp at hu; rcases hu with rfl; rfl) (by unfold maxLen; omega) (by omega) (Nat.le_trans hsz7 (Below.size (show Below w7.heap.size w7 _ by (repeat (first | exact Below.refl _ _ | refine Below.drew ?_ | (refine below_gw' ?_ (by first | omega | (simp [go_sem]; done) | (simp [go_sem]; omega)) _) | (refine Below.alloc ?_ (by first | omega | (simp [go_sem]; done) | (simp [go_sem]; omega)) _) | (refine Below.setCell ?_ (by first | omega | (simp [go_sem]; done) | (simp [go_sem]; omega)) _)))))) ?_)
                intro v8 w8 hown8 hgr8 hnl8 hbk8
                rw [← HTEN.out] at hown8
                have hth8 := (HTH7.out.below (show Below w7.heap.size w7 _ by (repeat (first | exact Below.refl _ _ | refine Below.drew ?_ | (refine below_gw' ?_ (by first | omega | (simp [go_sem]; done) | (simp [go_sem]; omega)) _) | (refine Below.alloc ?_ (by first | omega | (simp [go_sem]; done) | (simp [go_sem]; omega)) _) | (refine Below.setCell ?_ (by first | omega | (simp [go_sem]; done) | (simp [go_sem]; omega)) _))))).addO hown8 hgr8 (by rw [alloc_sz]; exact hbk8)
                have hbel8 : Below w.heap.size w w8 := Below.grown (HBEL7.out.trans (Below.mono (show Below w7.heap.size w7 _ by (repeat (first | exact Below.refl _ _ | refine Below.drew ?_ | (refine below_gw' ?_ (by first | omega | (simp [go_sem]; done) | (simp [go_sem]; omega)) _) | (refine Below.alloc ?_ (by first | omega | (simp [go_sem]; done) | (simp [go_sem]; omega)) _) | (refine Below.setCell ?_ (by first | omega | (simp [go_sem]; done) | (simp [go_sem]; omega)) _)))) hsz7)) hgr8 (Nat.le_trans hsz7 (Below.size (show Below w7.heap.size w7 _ by (repeat (first | exact Below.refl _ _ | refine Below.drew ?_ | (refine below_gw' ?_ (by first | omega | (simp [go_sem]; done) | (simp [go_sem]; omega)) _) | (refine Below.alloc ?_ (by first | omega | (simp [go_sem]; done) | (simp [go_sem]; omega)) _) | (refine Below.setCell ?_ (by first | omega | (simp [go_sem]; done) | (simp [go_sem]; omega)) _)))))) (own_low HTH7.out.o)
                obtain ⟨a3, c3, e3, _, hc3⟩ := (Row.of_owns hth8.n).strs
                cases e3
                obtain ⟨g3, o3, e4, hg8, hcl8⟩ := hc3 (by intro e; have := HT.out; rw [e] at this; simp at this)
                cases e4
                have f8 := hcl8 m t HT.out
                rw [HTB.out] at f8
                have hsz8 := hbel8.size
                have HTH8 := Lib.hid hth8
                have HBEL8 := Lib.hid hbel8
                clear hth8 hbel8 hown8 hgr8 hnl8 hbk8 hc3 hcl8 f7
                go_wp2_with (at_builtin; refine wpList_append_own_at _ rfl _ _ 45 rfl w.heap.size 9 i0 (.string ⟨#[]⟩) 1 16 Tryz.underlying45 hi hz0 hz1 hz2 rfl (by decide) u6 wait.length (wait.map Proofs.encStr) rfl (owns_below' HTH8.out.wt (by (repeat (first | exact Below.refl _ _ | refine Below.drew ?_ | (refine below_gw' ?_ (by first | omega | (simp [go_sem]; done) | (simp [go_sem]; omega)) _) | (refine Below.alloc ?_ (by first | omega | (simp [go_sem]; done) | (simp [go_sem]; omega)) _) | (refine Below.setCell ?_ (by first | omega | (simp [go_sem]; done) | (simp [go_sem]; omega)) _))))) _ 1 1 [.string tb] rfl rfl (cell_one_new _ _ _) (fun u hu => by simp at hu; rcases hu with rfl; rfl) (by unfold maxLen; omega) (by omega) (Nat.le_trans hsz8 (Below.size (show Below w8.heap.size w8 _ by (repeat (first | exact Below.refl _ _ | refine Below.drew ?_ | (refine below_gw' ?_ (by first | omega | (simp [go_sem]; done) | (simp [go_sem]; omega)) _) | (refine Below.alloc ?_ (by first | omega | (simp [go_sem]; done) | (simp [go_sem]; omega)) _) | (refine Below.setCell ?_ (by first | omega | (simp [go_sem]; done) | (simp [go_sem]; omega)) _)))))) ?_)
                intro v9 w9 hown9 hgr9 hnl9 hbk9
                rw [← HTEN.out] at hown9
                have hth9 := (HTH8.out.below (show Below w8.heap.size w8 _ by (repeat (first | exact Below.refl _ _ | refine Below.drew ?_ | (refine below_gw' ?_ (by first | omega | (simp [go_sem]; done) | (simp [go_sem]; omega)) _) | (refine Below.alloc ?_ (by first | omega | (simp [go_sem]; done) | (simp [go_sem]; omega)) _) | (refine Below.setCell ?_ (by first | omega | (simp [go_sem]; done) | (simp [go_sem]; omega)) _))))).addW hown9 hgr9 (by rw [alloc_sz]; exact hbk9)
                have hbel9 : Below w.heap.size w w9 := Below.grown (HBEL8.out.trans (Below.mono (show Below w8.heap.size w8 _ by (repeat (first | exact Below.refl _ _ | refine Below.drew ?_ | (refine below_gw' ?_ (by first | omega | (simp [go_sem]; done) | (simp [go_sem]; omega)) _) | (refine Below.alloc ?_ (by first | omega | (simp [go_sem]; done) | (simp [go_sem]; omega)) _) | (refine Below.setCell ?_ (by first | omega | (simp [go_sem]; done) | (simp [go_sem]; omega)) _)))) hsz8)) hgr9 (Nat.le_trans hsz8 (Below.size (show Below w8.heap.size w8 _ by (repeat (first | exact Below.refl _ _ | refine Below.drew ?_ | (refine below_gw' ?_ (by first | omega | (simp [go_sem]; done) | (simp [go_sem]; omega)) _) | (refine Below.alloc ?_ (by first | omega | (simp [go_sem]; done) | (simp [go_sem]; omega)) _) | (refine Below.setCell ?_ (by first | omega | (simp [go_sem]; done) | (simp [go_sem]; omega)) _)))))) (own_low HTH8.out.wt)
                have HL : Hid (RUiLoop L names ns nm w.heap.size w k (m + 1) (.slice (some ⟨gl, ol, none⟩) ns.length capn) v8 v9 w9) := Lib.hid ⟨out ++ [t], by rw [← List.append_assoc, HWT.out]; exact hth9, HR.out, by
                  rw [← List.append_assoc, List.getElem?_append_left (List.getElem?_eq_some_iff.1 HNM.out).1]; exact HNM.out, hbel9⟩
                clear hth9 hbel9 hown9 hgr9 hnl9 hbk9
                go_wp2_with fail
                go_roundw
                case rel => exact ⟨m + 1, by omega, by go_num, HL.out⟩
                case measure => simp [intOf]; omega
          · obtain rfl : m = ns.length := by omega
            have hru : RU L names out (k + 1) := HRI.out.outof (Nat.le_refl _) HNM.out HDEP.out
            have hkl := (List.getElem?_eq_some_iff.1 HNM.out).1
            have HL : Hid (RULoop L names w.heap.size w (k + 1) u5 u6 wr) := Lib.hid ⟨out, by rw [HWT.out]; exact ⟨hth.o, hth.nil, hth.wt, World.ownsRow_nil _ _ _ _, hth.ow, (fun g _ e => by cases e), fun g _ e => by cases e⟩, hru, hkl, HBEL5.out⟩
            clear hth hrin hnm5 hbel5 hru hkl hwt HS4
            go_wp2_with fail
            go_roundw
            case rel => exact ⟨k + 1, by go_num, HL.out⟩
            case measure => simp [intOf]; omega
    · have hkw : k = wait.length := by omega
      have hm := fun t => HRU.out.mem (by rw [HWT.out]; omega) t
      have hnd := HRU.out.nodup
      have hln := HRU.out.len
      have HF : Hid (RUseRes L names w (.returned u5) wr) := Lib.hid ⟨u5, out, rfl, HTH.out.o, HTH.out.nil, hnd, hln, hm, HBEL.out⟩
      clear hm hnd hln hkw
      go_wp2_with fail
      go_ret
      exact HF.out
end Go.Proofs.YtnjpfhihbjihbaaGreatDoor

/- The walk of the law SymbolsUses. -/
namespace Go.Proofs.YtnjpfhihbjihbaaGreatDoor
open Go.RowKit Go.Sort

open Go.ChangeMaps
theorem data_inj {a b : ByteArray} (h : a.data.toList = b.data.toList) : a = b := ByteArray.ext (Array.ext' h)
theorem nodup_data {l : List ByteArray} (h : l.Nodup) : (l.map fun s => s.data.toList).Nodup := by
  induction l with
  | nil => exact List.nodup_nil
  | cons a l ih =>
    rw [List.nodup_cons] at h
    rw [List.map_cons, List.nodup_cons]
    refine ⟨fun hm => ?_, ih h.2⟩
    obtain ⟨b, hb, e⟩ := List.mem_map.1 hm
    exact h.1 (data_inj e ▸ hb)
/-- Contains: a name that is not in a row. -/
theorem contains_no (L : List (List UInt8)) (s : ByteArray) (v : Value) (w : World) (hr : Row w v L.length (L.map Proofs.encStr)) (hl : L.length ≤ 1000000) (hn : s.data.toList ∉ L) :
    Calls Tryz.prog 16 #[v, .string s] w fun e w' => e = .returned (.bool false) ∧ Below w.heap.size w w' := by
  obtain ⟨a, cap, rfl, hcap, hc⟩ := hr
  by_cases hL : L = []
  · subst hL
    refine (Tryz.slices_Contains_string_empty a cap s w).mono ?_
    rintro e w' ⟨he, rfl⟩
    exact ⟨he, Below.refl _ _⟩
  · obtain ⟨g, o, rfl, hg, hcc⟩ := hc (by simpa using hL)
    have hM : (L.map fun y => (⟨y.toArray⟩ : ByteArray)).length = L.length := by simp
    refine (Tryz.slices_Contains_string g o L.length cap (L.map fun y => (⟨y.toArray⟩ : ByteArray)) s w (by rw [hM]; exact Nat.le_refl _) (by omega) (fun j hj => (hcc j (by rw [List.length_map]; rw [hM] at hj; exact hj)).trans ?_)).mono ?_
    · rw [hM] at hj
      simp [List.getD, List.getElem?_eq_getElem hj, Proofs.encStr]
    · rintro e w' ⟨he, rfl⟩
      refine ⟨?_, Below.refl _ _⟩
      rw [he]
      congr 2
      rw [Bool.eq_false_iff]
      intro h
      rw [Lib.containsS_iff] at h
      have h := List.mem_of_mem_take h
      obtain ⟨y, hy, e⟩ := List.mem_map.1 h
      exact hn (by rw [← e]; exact hy)
theorem Tabs20P.uses {w : World} {g b : Nat} {rv : Value} {L : List Sy} {M R : List (Sy × Value)} (h : Tabs20P w g b rv L M R) (names : List (List UInt8)) (hl : names.length ≤ 1000000) (v : Value) (hr : Row w v names.length (names.map Proofs.encStr)) :
    Calls Tryz.prog 24 #[.pointer (some ⟨g, 0, none⟩), v] w (UsRes L names w) :=
  (uses_any g b M h.okM h.lenM h.nmM names hl v w h.ti hr).mono fun e w' ⟨lO, h1, h2, h3, h4⟩ => ⟨lO, h1, h2, by
    rw [h.hm, List.length_map] at h3; exact h3, fun t => by
    rw [h4, h.hm]
    simp only [norm_Leads]⟩
theorem Tabs20P.ruses {w : World} {g b : Nat} {rv : Value} {L : List Sy} {M R : List (Sy × Value)} (h : Tabs20P w g b rv L M R) (names : List (List UInt8)) (hl : names.length ≤ 1000) (v : Value) (hr : Row w v names.length (names.map Proofs.encStr)) (hs : v = .slice none 0 0 ∨ ∃ ad n c, v = .slice (some ad) n c) :
    Calls Tryz.prog 23 #[rv, v] w (RUseRes L names w) := by
  have := ruses_any R h.okR h.lenR names hl rv v w h.rt hr hs
  rw [h.hr] at this
  exact this
/-- Both lists of names are the same when sorted. -/
theorem uses_eq {L : List Sy} {names out : List (List UInt8)} {lO : List (ByteArray × Value)} (h1 : (lO.map Prod.fst).Nodup) (h2 : ∀ t, seenS lO t ↔ ∃ nm ∈ names, Leads L ⟨nm.toArray⟩ t) (h3 : out.Nodup) (h4 : ∀ t : ByteArray, t.data.toList ∈ out ↔ ∃ nm ∈ names, Leads L ⟨nm.toArray⟩ t) : sortL out = sortL (lO.map fun x => x.1.data.toList) := by
  refine sortL_perm ((List.perm_ext_iff_of_nodup h3 ?_).2 fun x => ?_)
  · have := nodup_data h1
    rw [List.map_map] at this
    exact this
  · have e : x = (⟨x.toArray⟩ : ByteArray).data.toList := rfl
    rw [e, h4, ← h2, seen_mem]
    constructor
    · intro h
      obtain ⟨y, hy, e2⟩ := List.mem_map.1 h
      rw [List.mem_map]
      exact ⟨y, hy, by rw [e2]⟩
    · intro h
      obtain ⟨y, hy, e2⟩ := List.mem_map.1 h
      rw [List.mem_map]
      exact ⟨y, hy, data_inj e2⟩
theorem not_self {L : List Sy} {name : ByteArray} {q : Int} {lO : List (ByteArray × Value)} (hk : Kn L name = some q) (h : ∀ t, seenS lO t ↔ ∃ nm ∈ [name.data.toList], Leads L ⟨nm.toArray⟩ t) : name.data.toList ∉ sortL (lO.map fun x => x.1.data.toList) := fun hm => by
  rw [sortL_mem] at hm
  obtain ⟨y, hy, e⟩ := List.mem_map.1 hm
  have h1 := (h name).1 ((seen_mem lO name).2 (by rw [← data_inj e]; exact List.mem_map_of_mem (f := Prod.fst) hy))
  obtain ⟨nm, hn, hl⟩ := h1
  rw [List.mem_singleton] at hn
  subst hn
  rw [arr_eq] at hl
  rw [Kn_cycle hl] at hk
  cases hk
set_option maxHeartbeats 4000000 in
set_option maxRecDepth 100000 in
theorem lawSUses (v : Value) (l : List Dfn) (vn : Value) (names : List (List UInt8)) (w : World) (h0 : Row w v l.length (l.flatMap dfnc) ∧ l.length ≤ maxLen ∧ ∀ d ∈ l, d.name.size ≤ maxLen ∧ d.text.size ≤ maxLen)
    (h1 : Row w vn names.length (names.map Proofs.encStr) ∧ names.length ≤ maxLen ∧ (vn = .slice none 0 0 ∨ ∃ ad n c, vn = .slice (some ad) n c)) :
    Calls Tryz.prog 6 #[v, vn] w fun e w' => e = .returned (.bool true) ∧ Below w.heap.size w w' := by
  have hbu := build_any l v w h0.1 h0.2.1 h0.2.2
  unfold BuildRes at hbu
  obtain ⟨hrn, hnl, hsh⟩ := h1
  unfold maxLen at hnl
  obtain ⟨an, capn, rfl, hcapn, _⟩ := hrn.strs
  have hnl2 : (names.length : Int) ≤ 9223372036854775807 := by omega
  have hnl3 : (names.length : Int) ≤ (capn : Int) := by omega
  have HBU := Lib.hid hbu
  have HRN := Lib.hid hrn
  have HSH := Lib.hid hsh
  clear hbu h0 hrn hsh
  go_enter Tryz.func6, Tryz.ntmps6
  go_wp2_with fail
  (with_reducible refine HBU.out.mono ?_)
  rintro e w2 ⟨hb2, hres⟩
  have HBW := Lib.hid hb2
  have HRN2 := Lib.hid (HRN.out.below hb2)
  clear hb2
  rcases hres with ⟨_, rfl⟩ | ⟨L, g, b, rv, hL, rfl, htabs, _⟩
  · go_wp2_with fail
    (with_reducible refine (alive20 _).mono ?_)
    rintro e w4 ⟨rfl, hb4⟩
    have HB4 := Lib.hid hb4; clear hb4
    go_wp2_with fail
    go_ret
    exact ⟨rfl, bthen2 HBW.out HB4.out⟩
  · by_cases h10 : (10 : Int) < (names.length : Int)
    · clear htabs hL
      go_wp2_with fail
      (with_reducible refine (alive20 _).mono ?_)
      rintro e w4 ⟨rfl, hb4⟩
      have HB4 := Lib.hid hb4; clear hb4
      go_wp2_with fail
      go_ret
      exact ⟨rfl, bthen2 HBW.out HB4.out⟩
    · obtain ⟨M, R, hp⟩ := htabs.parts hL
      have HP := Lib.hid hp
      have hnm10 : names.length ≤ 10 := by omega
      have hru := hp.ruses names (by omega) _ HRN2.out HSH.out
      have HRU := Lib.hid hru
      clear htabs hL hp hru
      go_wp2_with fail
      (with_reducible refine HRU.out.mono ?_)
      rintro e w3 ⟨vo, out, rfl, hown3, hnil3, hnd3, hln3, hmem3, hb3⟩
      have HP3 := Lib.hid (HP.out.below hb3)
      have HRN3 := Lib.hid (HRN2.out.below hb3)
      have HB3 := Lib.hid hb3
      have hlR := HP.out.lenR
      have hlL : L.length ≤ 1000 := by rw [← HP.out.hr, List.length_map]; exact hlR
      have hso := sort_any w2.heap.size vo out w3 hown3 hnil3 (by omega) hb3.size
      have HSO := Lib.hid hso
      have HND := Lib.hid hnd3
      have HMEM := Lib.hid hmem3
      have HLO : Hid (out.length ≤ 1000) := Lib.hid (by omega)
      clear hso hnd3 hmem3 hown3 hnil3 hln3
      go_wp2_with fail
      (with_reducible refine HSO.out.mono ?_)
      rintro e w4 ⟨rfl, hown4, hb4⟩
      have HB4 : Hid (Below w2.heap.size w2 w4) := Lib.hid (HB3.out.trans hb4)
      have hs4 : Row w4 vo (sortL out).length ((sortL out).map Proofs.encStr) := by rw [sortL_len]; exact Row.of_owns hown4
      have HS4 := Lib.hid hs4
      have HP4 := Lib.hid (HP.out.below HB4.out)
      have HRN4 := Lib.hid (HRN2.out.below HB4.out)
      clear hown4 hb4 hs4 HP3 HRN3 HB3
      go_wp2_with fail
      (with_reducible refine (HP4.out.uses names (by omega) _ HRN4.out).mono ?_)
      rintro e w5 ⟨lO, ⟨vu, rfl, hown5, _, hb5⟩, hnd5, hln5, hseen5⟩
      have hueq := uses_eq hnd5 hseen5 HND.out HMEM.out
      have hs5 := Row.of_owns hown5
      rw [← hueq] at hs5
      have HS5 := Lib.hid hs5
      have HS45 := Lib.hid (HS4.out.below hb5)
      have HB5 : Hid (Below w2.heap.size w2 w5) := Lib.hid (bthen2 HB4.out hb5)
      have HP5 := Lib.hid (HP4.out.below hb5)
      have HSL : Hid ((sortL out).length ≤ 1000000) := Lib.hid (by rw [sortL_len]; have := HLO.out; omega)
      clear hown5 hb5 hnd5 hseen5 hueq hs5 hln5 HP4 HRN4
      go_wp2_with fail
      (with_reducible refine (equalRow_any _ _ (sortL out) _ HS5.out HS45.out HSL.out).mono ?_)
      rintro e w6 ⟨rfl, hb6⟩
      have HB6 : Hid (Below w2.heap.size w2 w6) := Lib.hid (bthen2 HB5.out hb6)
      have HP6 := Lib.hid (HP5.out.below hb6)
      clear hb6 HP5 HB5
      go_wp2_with fail
      (with_reducible refine HP6.out.known.mono ?_)
      rintro e w7 ⟨m, rfl, hm7, hb7⟩
      have HB7 : Hid (Below w2.heap.size w2 w7) := Lib.hid (bthen2 HB6.out hb7)
      have HP7 := Lib.hid (HP6.out.below hb7)
      obtain ⟨bo, lK, rfl, hsm, hob⟩ := hm7
      have HSM := Lib.hid hsm
      have HOB := Lib.hid hob
      obtain ⟨a, cap, rfl, hcap, hc⟩ := HP7.out.rt.parts
      have hl1 : (R.length : Int) ≤ 1000 := by omega
      have hc1 : (R.length : Int) ≤ (cap : Int) := by omega
      have HC := Lib.hid hc
      clear hb7 HP6 HB6 hsm hob hc
      go_wp2_with fail
      go_loopw [46] (fun i wr => ∃ k : Nat, k ≤ R.length ∧ i = .int .i64 k ∧ Below w7.heap.size w7 wr) (fun i _ => R.length - (intOf i).toNat)
      case atStart => exact ⟨0, Nat.zero_le _, rfl, Below.refl _ _⟩
      case round =>
        obtain ⟨k, hk, rfl, hbel⟩ := hrel
        have HBEL := Lib.hid hbel
        have hszr := hbel.size
        by_cases hlt : k < R.length
        · obtain ⟨x, hx⟩ : ∃ x, R[k]? = some x := ⟨_, List.getElem?_eq_getElem hlt⟩
          obtain ⟨gr, o, rfl, hgr, hcs⟩ := HC.out (by rintro rfl; simp at hx)
          obtain ⟨e0, e1, e2, e3, e4⟩ := hcs k x hx
          have f0 := (hbel.cell (p := ⟨gr, o + k * 5, none⟩) hgr).trans e0
          have f1 := (hbel.cell (p := ⟨gr, o + k * 5 + 1, none⟩) hgr).trans e1
          have f2 := (hbel.cell (p := ⟨gr, o + k * 5 + 2, none⟩) hgr).trans e2
          have f3 := (hbel.cell (p := ⟨gr, o + k * 5 + 3, none⟩) hgr).trans e3
          have f4 := (hbel.cell (p := ⟨gr, o + k * 5 + 4, none⟩) hgr).trans e4
          obtain ⟨px, hpx⟩ := (HP7.out.rt.2 x (List.mem_of_getElem? hx)).ptr
          obtain ⟨⟨name, n, ex, here, line⟩, xv⟩ := x
          dsimp only at *
          subst hpx
          have hi0 : (0 : Int) ≤ (k : Int) := by omega
          have hi1 : (k : Int) < (R.length : Int) := by omega
          have hlk := run_sget (P := Tryz.prog) Tryz.underlying49 Tryz.underlying9 zeroInt ((HSM.out.below hbel).alloc (.cells #[.string name, .int .i64 n, .pointer px, .int .i64 here, .int .i64 line] 31)) name true
          rw [HOB.out] at hlk
          clear hcs e0 e1 e2 e3 e4 hx hbel
          rcases hkn : Kn L name with _ | q
          · rw [hkn] at hlk
            simp only [Option.map_none, Option.getD_none, Option.isSome_none, if_true] at hlk
            clear hkn
            go_wp2_with fail
            refine wp_region_gw (by kernel_rfl) (by kernel_rfl) ?_
            repeat (go_big_quiet_step (fail))
            refine wpQuiet_nil ?_
            rintro _ ⟨p2, rfl⟩
            go_wp2_with fail
            go_roundw
            case rel => exact ⟨k + 1, by omega, by go_num, HBEL.out.trans (Below.mono (show Below wr.heap.size wr _ by (repeat (first | exact Below.refl _ _ | refine Below.drew ?_ | (refine below_gw' ?_ (by first | omega | (simp [go_sem]; done) | (simp [go_sem]; omega)) _) | (refine Below.alloc ?_ (by first | omega | (simp [go_sem]; done) | (simp [go_sem]; omega)) _) | (refine Below.setCell ?_ (by first | omega | (simp [go_sem]; done) | (simp [go_sem]; omega)) _)))) hszr)⟩
            case measure => simp [intOf]; omega
          · rw [hkn] at hlk
            simp only [Option.map_some, Option.getD_some, Option.isSome_some, if_true] at hlk
            have HKN := Lib.hid hkn
            clear hkn
            go_wp2_with fail
            obtain ⟨U, hU⟩ : ∃ U, wr.alloc (.cells #[.string name, .int .i64 n, .pointer px, .int .i64 here, .int .i64 line] 31) = U := ⟨_, rfl⟩
            have hbU : Below wr.heap.size wr U := by rw [← hU]; (repeat (first | exact Below.refl _ _ | refine Below.drew ?_ | (refine below_gw' ?_ (by first | omega | (simp [go_sem]; done) | (simp [go_sem]; omega)) _) | (refine Below.alloc ?_ (by first | omega | (simp [go_sem]; done) | (simp [go_sem]; omega)) _) | (refine Below.setCell ?_ (by first | omega | (simp [go_sem]; done) | (simp [go_sem]; omega)) _)))
            have hCU : U.heap[wr.heap.size]? = some (.cells #[.string name, .int .i64 n, .pointer px, .int .i64 here, .int .i64 line] 31 (0, 0)) := by rw [← hU]; exact alloc_at' wr _
            rw [hU]
            have k0 : U.cell? ⟨wr.heap.size, 0, none⟩ = some (.string name) := (cell_at hCU 0).trans rfl
            have hltU : wr.heap.size < U.heap.size := lt_of_block hCU
            have hrow1 : ∀ W : World, W.heap[U.heap.size]? = some (.cells #[.string name] 9 (0, 0)) → Row W (.slice (some ⟨U.heap.size, 0, none⟩) 1 1) [name.data.toList].length ([name.data.toList].map Proofs.encStr) := fun W hW => ⟨_, 1, rfl, Nat.le_refl _, fun _ => ⟨U.heap.size, 0, rfl, lt_of_block hW, fun j hj => by
              have hj0 : j = 0 := by simp at hj; exact hj
              subst hj0
              rw [cell_at hW]
              show some (Value.string name) = some (Proofs.encStr name.data.toList)
              rw [enc_self]⟩⟩
            have hus : Calls Tryz.prog 24 #[.pointer (some ⟨g, 0, none⟩), .slice (some ⟨U.heap.size, 0, none⟩) 1 1] (U.alloc (.cells #[.string name] 9)).drew (UsRes L [name.data.toList] (U.alloc (.cells #[.string name] 9)).drew) := (((HP7.out.below HBEL.out).below hbU).below (show Below U.heap.size U _ by (repeat (first | exact Below.refl _ _ | refine Below.drew ?_ | (refine below_gw' ?_ (by first | omega | (simp [go_sem]; done) | (simp [go_sem]; omega)) _) | (refine Below.alloc ?_ (by first | omega | (simp [go_sem]; done) | (simp [go_sem]; omega)) _) | (refine Below.setCell ?_ (by first | omega | (simp [go_sem]; done) | (simp [go_sem]; omega)) _))))).uses [name.data.toList] (by simp) _ (hrow1 _ (alloc_at' U _))
            have HUS := Lib.hid hus
            have HBU := Lib.hid hbU
            clear hU hbU hCU hrow1 hus hlk f0 f1 f2 f3 f4
            go_region_held3 (fun w' => w'.cell? ⟨wr.heap.size, 0, none⟩ = some (.string name)) (first | exact k0 | exact K1 | exact K2 | exact (Below.cell (p := ⟨wr.heap.size, 0, none⟩) (show Below U.heap.size U _ by (repeat (first | exact Below.refl _ _ | refine Below.drew ?_ | (refine below_gw' ?_ (by first | omega | (simp [go_sem]; done) | (simp [go_sem]; omega)) _) | (refine Below.alloc ?_ (by first | omega | (simp [go_sem]; done) | (simp [go_sem]; omega)) _) | (refine Below.setCell ?_ (by first | omega | (simp [go_sem]; done) | (simp [go_sem]; omega)) _)))) hltU).trans k0) (first | ((with_reducible refine HUS.out.mono ?_); rintro e w4 ⟨lO4, ⟨v4, rfl, hown4, hnl4, hb4⟩, hnd4, hln4, hseen4⟩; have hbU4 : Below U.heap.size U w4 := Below.trans (b := (U.alloc (.cells #[.string name] 9)).drew) (by (repeat (first | exact Below.refl _ _ | refine Below.drew ?_ | (refine below_gw' ?_ (by first | omega | (simp [go_sem]; done) | (simp [go_sem]; omega)) _) | (refine Below.alloc ?_ (by first | omega | (simp [go_sem]; done) | (simp [go_sem]; omega)) _) | (refine Below.setCell ?_ (by first | omega | (simp [go_sem]; done) | (simp [go_sem]; omega)) _)))) (hb4.mono (by show _ ≤ (U.heap.push _).size; simp)); have K1 := (hbU4.cell (p := ⟨wr.heap.size, 0, none⟩) hltU).trans k0; have hno4 := not_self HKN.out hseen4; have hln5 : (sortL (lO4.map fun x => x.1.data.toList)).length ≤ 1000000 := by { rw [sortL_len, List.length_map]; omega }) | ((with_reducible refine (contains_no _ name v4 w4 (Row.of_owns hown4) hln5 hno4).mono ?_); rintro e w5 ⟨rfl, hb5⟩; have K2 := (hb5.cell (p := ⟨wr.heap.size, 0, none⟩) (Nat.lt_of_lt_of_le hltU hbU4.size)).trans K1))
            have HB5 : Hid (Below w7.heap.size w7 w5) := Lib.hid (bthen2 (bthen2 (bthen2 HBEL.out HBU.out) hbU4) hb5)
            clear hbU4 hb5 hb4 K1 K2 hno4 hln5 hown4 hnd4 hln4 hseen4 hnl4 k0
            go_wp2_with fail
            go_roundw
            case rel => exact ⟨k + 1, by omega, by go_num, HB5.out⟩
            case measure => simp [intOf]; omega
        · obtain rfl : k = R.length := by omega
          clear hbel
          go_wp2_with fail
          (with_reducible refine (alive20 _).mono ?_)
          rintro e w8 ⟨rfl, hb8⟩
          have HB8 : Hid (Below w2.heap.size w2 w8) := Lib.hid (bthen2 (bthen2 HB7.out HBEL.out) hb8)
          clear hb8
          go_wp2_with fail
          go_ret
          exact ⟨rfl, bthen2 HBW.out HB8.out⟩
end Go.Proofs.YtnjpfhihbjihbaaGreatDoor

/- The statement SymbolsUses of chapter 20: proved for every input; no condition beyond the statement's own. -/
namespace Go.Proofs.YtnjpfhihbjihbaaGreatDoor.lawSymbolsUses
open Go.ChangeShapes Go.WideShapes Go.ChangeAt Go.RowKit Go.Joins
open Go.ChangeMaps (open_string shut_string)

theorem own : ownKnob Tryz.prog.godebug = none := by kernel_rfl
theorem laidOut : laidOutB Tryz.prog = true := by kernel_rfl

/-- A table of the row's list reads as it is listed, wherever it stands on the list. -/
theorem tab_of_list {P : Program} {W : World} {name : String} {k : IntKind} {zs : List Int} {g : Nat} {t e : TypeId} {n : Nat}
    (hg : P.globalNamed name = some g) (hty : (P.globals[g]?).map (·.type) = some t) (ht : P.underlying t = some (.array n e)) (he : P.underlying e = some (.int k)) (hce : P.cellsOf e = 1) (hct : P.cellsOf t = n) :
    ∀ (l : List (String × DataW Unit)) (ps : List MemPlace), DataW.LaidVars P W l ps → (name, Lib.tabData k zs) ∈ l → Lib.TabIs P W name k zs
  | [], _, _, hm => by cases hm
  | x :: l, ps, h, hm => by
    obtain ⟨nm, d⟩ := x
    obtain ⟨g', t', cs, fuel, p, q, hg', ht', hvar, hd, hrest, _⟩ := h
    rcases List.mem_cons.1 hm with hm | hm
    · cases hm
      obtain rfl := Option.some.inj (hg.symm.trans hg')
      obtain rfl := Option.some.inj (hty.symm.trans ht')
      unfold Lib.TabIs
      rw [hvar, ← Lib.cells_of_tab ht he hce hct hd]
    · exact tab_of_list hg hty ht he hce hct l q hrest hm

theorem table {W : World} (h : laidMetH Tryz.prog Rows.symbolsUsesRow.laid W) : Tabs W := by
  obtain ⟨ps, hv, _⟩ := h
  have ht : Lib.TabIs Tryz.prog W "math/bits.deBruijn64tab" .u8 [0, 1, 56, 2, 57, 49, 28, 3, 61, 58, 42, 50, 38, 29, 17, 4, 62, 47, 59, 36, 45, 43, 51, 22, 53, 39, 33, 30, 24, 18, 12, 5, 63, 55, 48, 27, 60, 41, 37, 16, 46, 35, 44, 21, 52, 32, 23, 11, 54, 26, 40, 15, 34, 20, 31, 10, 25, 14, 19, 9, 13, 8, 7, 6] :=
    tab_of_list (g := 3) (t := 249) (e := 5) (n := 64) (by kernel_rfl) (by kernel_rfl) Tryz.underlying249 Tryz.underlying5 (by kernel_rfl) (by kernel_rfl) _ ps hv (.tail _ (.head _))
  exact ht.cell (by kernel_rfl) 15 (by decide)

set_option maxRecDepth 100000 in
/-- What the walk gives, for every argument and every world that holds the tables. -/
theorem contract (H : Type) (enc : TypeId × Value → H) (W : World) (base : Nat) (args : Array Value) (ds gs : List (DataW H)) (before : List MemPlace)
    (hval : ∀ (j : Nat) t v, Tryz.f6.params[j]? = some t → args[j]? = some v → Value.okWide Tryz.prog W .any base t v)
    (hW : DataW.Whole enc Tryz.prog Tryz.f6.params.toList Rows.symbolsUsesSpec.vars false W args.toList ds gs before) (_hL : laidMetH Tryz.prog Rows.symbolsUsesRow.laid W) :
    Calls Tryz.prog 6 args W fun e W' => ∃ v, e = .returned v ∧ Rows.symbolsUsesSpec.post enc Tryz.prog Tryz.f6 false true false false W args v W' := by
  have hW' := hW
  obtain ⟨p, q, hA0, hV, rfl, hfz, hnd⟩ := hW
  have hA : DataW.TrodAll enc Tryz.prog W 0 (fun _ => true) true Tryz.f6.params.toList args.toList ds p := hA0
  rw [Tryz.params6] at hA hval
  obtain ⟨v0, vs0, d0, ds0, p0, q0, hargs, rfl, rfl, h0, r0⟩ := trodAll_cons hA
  obtain ⟨v1, vs1, d1, ds1, p1, q1, rfl, rfl, rfl, h1, r1⟩ := trodAll_cons r0
  obtain ⟨rfl, rfl, rfl⟩ := trodAll_nil r1
  obtain rfl : args = #[v0, v1] := by cases args; simp_all
  obtain ⟨rfl, rfl⟩ := trodVars_none hV
  have k0 := h0
  have lt0 : ∀ x ∈ p0, x.block < W.heap.size := by obtain ⟨m, hm⟩ := k0; exact DataW.trod_lt m _ _ _ hm
  have k1 := h1
  have lt1 : ∀ x ∈ p1, x.block < W.heap.size := by obtain ⟨m, hm⟩ := k1; exact DataW.trod_lt m _ _ _ hm
  obtain ⟨L0, hr0⟩ := open_dfns (hval 0 22 v0 rfl rfl) h0
  obtain ⟨L1, hr1⟩ := open_strs (hval 1 45 v1 rfl rfl) h1
  refine (lawSUses v0 L0 v1 L1 W hr0 hr1).mono fun e W' ⟨he, bel⟩ => ?_
  subst he
  exact ⟨_, rfl, _, _, _, [], _, [], hW', trodAll_mk1 (shut_bool Tryz.underlying4 _), (trodAll_cons_mk (Below.trod laidOut (by kernel_rfl) (of_decide_eq_true (by kernel_rfl)) k0 bel lt0) (trodAll_cons_mk (Below.trod laidOut (by kernel_rfl) (of_decide_eq_true (by kernel_rfl)) k1 bel lt1) trodAll_mk0)), rfl, bel.frame _, fun h => by cases h⟩

/-- A world for the witness: the settled one, the tables holding what their initialisers lay. -/
noncomputable def laidWorld (os : Os) : World :=
  { World.holding Tryz.prog os ⟨#[], #[], []⟩ with heap := ((((World.holding Tryz.prog os ⟨#[], #[], []⟩).heap.modify 2 fun
      | .cells _ t frozen => .cells #[.int .u8 0, .int .u8 1, .int .u8 28, .int .u8 2, .int .u8 29, .int .u8 14, .int .u8 24, .int .u8 3, .int .u8 30, .int .u8 22, .int .u8 20, .int .u8 15, .int .u8 25, .int .u8 17, .int .u8 4, .int .u8 8, .int .u8 31, .int .u8 27, .int .u8 13, .int .u8 23, .int .u8 21, .int .u8 19, .int .u8 16, .int .u8 7, .int .u8 26, .int .u8 12, .int .u8 18, .int .u8 6, .int .u8 11, .int .u8 5, .int .u8 10, .int .u8 9] t frozen
      | o => o).modify 3 fun
      | .cells _ t frozen => .cells #[.int .u8 0, .int .u8 1, .int .u8 56, .int .u8 2, .int .u8 57, .int .u8 49, .int .u8 28, .int .u8 3, .int .u8 61, .int .u8 58, .int .u8 42, .int .u8 50, .int .u8 38, .int .u8 29, .int .u8 17, .int .u8 4, .int .u8 62, .int .u8 47, .int .u8 59, .int .u8 36, .int .u8 45, .int .u8 43, .int .u8 51, .int .u8 22, .int .u8 53, .int .u8 39, .int .u8 33, .int .u8 30, .int .u8 24, .int .u8 18, .int .u8 12, .int .u8 5, .int .u8 63, .int .u8 55, .int .u8 48, .int .u8 27, .int .u8 60, .int .u8 41, .int .u8 37, .int .u8 16, .int .u8 46, .int .u8 35, .int .u8 44, .int .u8 21, .int .u8 52, .int .u8 32, .int .u8 23, .int .u8 11, .int .u8 54, .int .u8 26, .int .u8 40, .int .u8 15, .int .u8 34, .int .u8 20, .int .u8 31, .int .u8 10, .int .u8 25, .int .u8 14, .int .u8 19, .int .u8 9, .int .u8 13, .int .u8 8, .int .u8 7, .int .u8 6] t frozen
      | o => o).modify 1 fun
      | .cells _ t frozen => .cells #[.int .u64 1, .int .u64 10, .int .u64 100, .int .u64 1000, .int .u64 10000, .int .u64 100000, .int .u64 1000000, .int .u64 10000000, .int .u64 100000000, .int .u64 1000000000, .int .u64 10000000000, .int .u64 100000000000, .int .u64 1000000000000, .int .u64 10000000000000, .int .u64 100000000000000, .int .u64 1000000000000000, .int .u64 10000000000000000, .int .u64 100000000000000000, .int .u64 1000000000000000000, .int .u64 10000000000000000000] t frozen
      | o => o) }
theorem laid_met (os : Os) : laidMet Tryz.prog Rows.symbolsUsesRow.laid ((laidWorld os).forCall (fun _ _ => 0) ⟨#[], #[Value.slice none 0 0, .slice none 0 0], []⟩).memory :=
  laidMet_of_run' 8 (by kernel_rfl) (by kernel_rfl)
theorem reads (os : Os) {H : Type} (enc : TypeId × Value → H) : ∃ places, DataW.whole enc Tryz.prog ((laidWorld os).forCall (fun _ _ => 0) ⟨#[], #[Value.slice none 0 0, .slice none 0 0], []⟩).memory Tryz.f6.params.toList Rows.symbolsUsesSpec.vars false (#[Value.slice none 0 0, .slice none 0 0] : Array Value).toList 8 = some ([.nil, .nil], [], places) :=
  ⟨[], by kernel_rfl⟩

set_option maxRecDepth 100000 in
theorem lifted (os : Os) (started : os.Started) (H : Type) (enc : TypeId × Value → H) (F : Stop.Interp) :
    ReturnsInHanded {} Tryz.checked os 6 .any ((OpenSpec.ofChange Rows.symbolsUsesSpec).preRow enc Tryz.prog Tryz.f6 Rows.symbolsUsesRow.domain false Rows.symbolsUsesRow.laid) (((OpenSpec.ofChange Rows.symbolsUsesSpec).at F).post enc Tryz.prog Tryz.f6 false true false false) := by
  obtain ⟨places, hx⟩ := reads os enc
  refine returnsInHanded_of_row (C := Tryz.checked) (s := OpenSpec.ofChange Rows.symbolsUsesSpec) own started (by kernel_rfl) Tryz.func6
    (witness_row_at (enc := enc) (C := Tryz.checked) false (laidWorld os) #[Value.slice none 0 0, .slice none 0 0] rfl (by kernel_rfl) (by kernel_rfl) (by kernel_rfl)
      (OpenSpec.preRow_of_cond 8 hx (by kernel_rfl) (fun k hk => by cases hk) (by kernel_rfl) (laid_met os))) ?_
  intro W base args ds gs before hval hW _ _ _ hL _ _
  exact contract H enc W base args ds gs before hval hW hL

theorem said : Rows.SymbolsUsesSaid :=
  OpenClaim.holds_of_cond 6 Tryz.f6 rfl rfl rfl rfl rfl rfl rfl ⟨rfl, rfl, rfl, rfl, rfl⟩ rfl rfl rfl rfl rfl (by kernel_rfl) Tryz.func6 (by kernel_rfl)
    (of_decide_eq_true (by kernel_rfl)) (by unfold Func.isWrapper; first | (rw [if_pos (by decide +kernel)]; kernel_rfl) | (rw [if_neg (by decide +kernel)]; exact ⟨rfl, rfl⟩))
    (fun os started H enc _ F => by rw [OpenClaim.pre_eq_preRow]; exact lifted os started H enc F)

/-- No parameter wants a stand-in; the program's own looks are off. -/
theorem plain (f : FuncId) (fn : Func) (hf : Tryz.pinned.checked.prog.funcNamed "breadboard/breadboardlaw20.SymbolsUses" = some f) (hfn : Tryz.pinned.checked.prog.funcs[f]? = some fn) :
    true = Tryz.pinned.checked.prog.looks [] ∧ ∀ (j : Nat) t, fn.params[j]? = some t → Tryz.pinned.checked.prog.wantsStandIn t = false := by
  obtain rfl : f = 6 := Option.some.inj ((show Tryz.prog.funcNamed "breadboard/breadboardlaw20.SymbolsUses" = some 6 by kernel_rfl).symm.trans hf) |>.symm
  obtain rfl : fn = Tryz.f6 := (Option.some.inj (Tryz.func6.symm.trans hfn)).symm
  refine ⟨by kernel_rfl, fun j t ht => ?_⟩
  rw [Tryz.params6] at ht
  have hm : t ∈ [22, 45] := by simpa using Array.mem_of_getElem? ht
  have hall : ([22, 45].all fun u => !Tryz.prog.wantsStandIn u) = true := by kernel_rfl
  exact (show Tryz.prog.wantsStandIn t = false by simpa using List.all_eq_true.1 hall t hm)

/-- The card. -/
theorem proved : Rows.SymbolsUsesCardSaid :=
  Claim7.holds_tied_plain_at .later [] _ _ _ _ said (fun _ h => by cases h) (by kernel_rfl) (fun _ h => by cases h) symbolsUses_row_tie rfl ⟨rfl, rfl⟩ (by kernel_rfl) rfl plain (by kernel_rfl)
end Go.Proofs.YtnjpfhihbjihbaaGreatDoor.lawSymbolsUses
