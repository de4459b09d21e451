/- The statement SymbolsKnown of chapter 20: proved for every input; no condition beyond the statement's own. -/
import Derived.Test.YtnjpfhihbjihbaaGreatDoorCards
import Derived.Test.YtnjpfhihbjihbaaGreatDoorIter
import Derived.Test.YtnjpfhihbjihbaaGreatDoorS10
import Derived.Test.YtnjpfhihbjihbaaGreatDoorS27
import Derived.Test.YtnjpfhihbjihbaaGreatDoorS30
import Derived.Test.YtnjpfhihbjihbaaGreatDoorS39
import Derived.Test.YtnjpfhihbjihbaaGreatDoorTie
import Derived.Deep.DeepHandedRow
import Derived.Lib.LaidTab
import Derived.Lib.SmallJoins
import Derived.Maps.Own
import Derived.OpenShut
import Derived.ProofKit
import Derived.ShutString
import Derived.Sort.KeysCollected
import Derived.StringKeys
/- (*symbols.Table).Names; the sorted keys of a map. -/
namespace Go.Proofs.YtnjpfhihbjihbaaGreatDoor
open Go.RowKit Go.Sort

open Go.ChangeMaps Go.Maps
theorem own_base {w : World} {b b' : Nat} {e : TypeId} {size : Nat} {v : Value} {n : Nat} {xs : List Value} (h : w.ownsRow b e size v n xs) (hb : b' ≤ b) : w.ownsRow b' e size v n xs := by
  obtain ⟨h1, h2⟩ := h
  refine ⟨h1, ?_⟩
  rcases h2 with h2 | ⟨g, cap, cur, a1, a2, a3⟩
  · exact .inl h2
  · exact .inr ⟨g, cap, cur, a1, Nat.le_trans hb a2, a3⟩
/-- How a value reads here: as nothing. -/
def noRead : Value → Option (DataW Unit × List MemPlace) := fun _ => some (.nil, [])
theorem SMap.own {P : Program} {K : TypeId} (hk : P.underlying K = some .string) {w : World} {b : Nat} {l : List (ByteArray × Value)} (h : SMap w b l) (hl : l.length ≤ maxLen) (hs : ∀ x ∈ l, x.1.size ≤ maxLen) :
    ∃ D : DataW Unit, w.ownsMap P K noRead b l.length D ∧ Maps.size D = l.length ∧ (strKeys D).Perm (l.map fun x => x.1.data.toList) := by
  obtain ⟨es, c, hb, he, hst⟩ := h
  have hlen : es.size = l.length := by
    have := congrArg List.length he
    simpa using this
  have hkey : ∀ x ∈ es.toList, ∃ y ∈ l, x.key = .string y.1 := fun x hx => by
    have h1 : ekv x ∈ es.toList.map ekv := List.mem_map_of_mem hx
    rw [he] at h1
    obtain ⟨y, hy, e⟩ := List.mem_map.1 h1
    exact ⟨y, hy, (congrArg Prod.fst e).symm⟩
  have hrd : ∀ x ∈ es.toList, ∃ y ∈ l, x.key = .string y.1 ∧ Go.WideElems.rd P K noRead x = some (.string y.1.data.toList, .nil) := fun x hx => by
    obtain ⟨y, hy, e⟩ := hkey x hx
    refine ⟨y, hy, e, ?_⟩
    unfold Go.WideElems.rd
    rw [e, Go.WideMaps.keyOf_string_mk hk (hs y hy)]
    rfl
  refine ⟨.map ((es.toList.map (Go.WideElems.rg P K noRead)).foldr DataW.insert []), ⟨es, c, hb, ⟨by rw [hlen]; exact hl, hst, fun x hx => by obtain ⟨y, _, _, h⟩ := hrd x hx; exact ⟨_, h⟩⟩, by omega, rfl⟩, ?_, ?_⟩
  · rw [size_eq, (Go.WideShapes.sorted_perm _).length_eq, List.length_map, Array.length_toList, hlen]
  · have hp := (Go.WideShapes.sorted_perm (es.toList.map (Go.WideElems.rg P K noRead))).map (fun p : Lit × DataW Unit => strOf p.1)
    refine hp.trans (List.Perm.of_eq ?_)
    have hl2 : l.map (fun x => x.1.data.toList) = (es.toList.map ekv).map fun p => strOf (match p.1 with | .string s => .string s.data.toList | _ => .bool false) := by
      rw [he, List.map_map]
      rfl
    rw [hl2, List.map_map, List.map_map]
    refine List.map_congr_left fun x hx => ?_
    obtain ⟨y, _, e, h⟩ := hrd x hx
    simp only [Function.comp_apply, Go.WideElems.rg, h, Option.getD_some, e]
/-- The names of a table, in order. -/
def sortL (l : List (List UInt8)) : List (List UInt8) := l.mergeSort fun x y => decide (x ≤ y)
theorem sortL_perm {l m : List (List UInt8)} (h : l.Perm m) : sortL l = sortL m := mergeSort_of_perm h
theorem sortL_mem (l : List (List UInt8)) (x : List UInt8) : x ∈ sortL l ↔ x ∈ l := List.mem_mergeSort
theorem sortL_len (l : List (List UInt8)) : (sortL l).length = l.length := List.length_mergeSort _
/-- What Names leaves. -/
def NmRes (ns : List (List UInt8)) (w : World) (e : Ending) (w' : World) : Prop := ∃ v, e = .returned v ∧ w'.ownsRow w.heap.size 9 1 v (sortL ns).length ((sortL ns).map Proofs.encStr) ∧ (v = .slice none 0 0 ↔ sortL ns = []) ∧ Below w.heap.size w w'
set_option maxHeartbeats 1000000 in
theorem namesT_nil (w : World) : Calls Tryz.prog 22 #[.pointer none] w fun e w' => e = .returned (.slice none 0 0) ∧ Below w.heap.size w w' := by
  go_enter Tryz.func22, Tryz.ntmps22
  go_wp2_with fail
  go_ret
  exact ⟨rfl, by (repeat (first | exact Below.refl _ _ | refine Below.drew ?_ | (refine below_gw' ?_ (by first | omega | (simp [go_sem]; done) | (simp [go_sem]; omega)) _) | (refine Below.alloc ?_ (by first | omega | (simp [go_sem]; done) | (simp [go_sem]; omega)) _) | (refine Below.setCell ?_ (by first | omega | (simp [go_sem]; done) | (simp [go_sem]; omega)) _)))⟩
set_option maxHeartbeats 1000000 in
theorem namesT_any (g b : Nat) (M : List (Sy × Value)) (hM : M.length ≤ 1000) (hs : ∀ x ∈ M, x.1.name.size ≤ 1000) (w : World) (hT : TabIn w g b M) :
    Calls Tryz.prog 22 #[.pointer (some ⟨g, 0, none⟩)] w (NmRes (M.map fun x => x.1.name.data.toList) w) := by
  have c1 := hT.cell
  have hg : g < w.heap.size := lt_of_block hT.head
  obtain ⟨D, hown, hsz, hperm⟩ := hT.map.own (P := Tryz.prog) Tryz.underlying9 (by rw [List.length_map]; unfold maxLen; omega) (fun x hx => by obtain ⟨y, hy, rfl⟩ := List.mem_map.1 hx; have := hs y hy; show y.1.name.size ≤ _; unfold maxLen; omega)
  rw [List.length_map] at hsz
  have hkeys := fun w => callsIn_wide.1 (Tryz.maps_Keys_51 (some b) w)
  have hsort := callsIn_wide.1 (Tryz.slices_Sorted_keys_50_51 b _ D noRead w hown (by rw [hsz]; unfold maxLen; omega) (by rw [hsz]; omega))
  have hp2 : sortL (strKeys D) = sortL (M.map fun x => x.1.name.data.toList) := by
    refine sortL_perm (hperm.trans (List.Perm.of_eq ?_))
    rw [List.map_map]; rfl
  have HP := Lib.hid hp2
  have HK := Lib.hid hkeys
  have HS := Lib.hid hsort
  clear hkeys hsort hp2 hperm hown hsz hT
  go_enter Tryz.func22, Tryz.ntmps22
  go_wp2_with fail
  (with_reducible refine (HK.out _).mono ?_)
  rintro e w1 ⟨rfl, rfl⟩
  go_wp2_with fail
  (with_reducible refine HS.out.mono ?_)
  rintro e w2 ⟨v, ss, rfl, hperm, hrow, hnil, hb⟩
  have hss : sortL ss = sortL (M.map fun x => x.1.name.data.toList) := by rw [← HP.out]; exact sortL_perm hperm
  have HSS := Lib.hid hss
  have HROW := Lib.hid hrow
  have HNIL := Lib.hid hnil
  have HB : Hid (Below w.heap.size w w2) := Lib.hid (Below.trans (b := w.alloc (.cells #[.map (some b)] 103)) (by (repeat (first | exact Below.refl _ _ | refine Below.drew ?_ | (refine below_gw' ?_ (by first | omega | (simp [go_sem]; done) | (simp [go_sem]; omega)) _) | (refine Below.alloc ?_ (by first | omega | (simp [go_sem]; done) | (simp [go_sem]; omega)) _) | (refine Below.setCell ?_ (by first | omega | (simp [go_sem]; done) | (simp [go_sem]; omega)) _)))) (hb.mono (by show _ ≤ (w.heap.push _).size; simp)))
  clear hss hrow hnil hb hperm
  go_wp2_with fail
  go_ret
  refine ⟨v, rfl, ?_, ?_, HB.out⟩
  · rw [← HSS.out, sortL_len]
    exact own_base HROW.out (by show _ ≤ (w.heap.push _).size; simp)
  · rw [HNIL.out, ← HSS.out]
    constructor
    · rintro rfl; exact List.eq_nil_of_length_eq_zero (sortL_len [])
    · intro h
      have := sortL_len ss
      rw [h] at this
      exact List.eq_nil_of_length_eq_zero (by simpa using this.symm)
end Go.Proofs.YtnjpfhihbjihbaaGreatDoor

/- slices.Equal at equal rows of strings; append onto a row of one's own, the source a row that may be nil. -/
namespace Go.Proofs.YtnjpfhihbjihbaaGreatDoor
open Go.RowKit Go.Sort

theorem equalRow_any (v1 v2 : Value) (L : List (List UInt8)) (w : World) (h1 : Row w v1 L.length (L.map Proofs.encStr)) (h2 : Row w v2 L.length (L.map Proofs.encStr)) (hl : L.length ≤ 1000000) :
    Calls Tryz.prog 21 #[v1, v2] w fun e w' => e = .returned (.bool true) ∧ Below w.heap.size w w' := by
  obtain ⟨a1, c1, rfl, hc1, h1⟩ := h1
  obtain ⟨a2, c2, rfl, hc2, h2⟩ := h2
  rcases hL : L with _ | ⟨x, l⟩
  · refine (Tryz.slices_Equal_string_empty a1 a2 c1 0 c2 w (by decide)).mono ?_
    rintro e w' ⟨he, rfl⟩
    exact ⟨by rw [he]; rfl, Below.refl _ _⟩
  · rw [← hL]
    have hne : L.map Proofs.encStr ≠ [] := by rw [hL]; simp
    obtain ⟨g1, o1, rfl, hg1, h1⟩ := h1 hne
    obtain ⟨g2, o2, rfl, hg2, h2⟩ := h2 hne
    have hM : (L.map fun y => (⟨y.toArray⟩ : ByteArray)).length = L.length := by simp
    have hcell : ∀ j, j < (L.map fun y => (⟨y.toArray⟩ : ByteArray)).length → (L.map Proofs.encStr)[j]? = some (.string ((L.map fun y => (⟨y.toArray⟩ : ByteArray)).getD j ByteArray.empty)) := fun j hj => by
      rw [hM] at hj
      simp [List.getD, List.getElem?_eq_getElem hj, Proofs.encStr]
    refine (Tryz.slices_Equal_string g1 o1 L.length c1 g2 o2 L.length c2 _ _ w (by rw [hM]; exact Nat.le_refl _) (by rw [hM]; exact Nat.le_refl _) (by omega) (by omega) (fun j hj => (h1 j (by rw [List.length_map]; rw [hM] at hj; exact hj)).trans (hcell j hj)) (fun j hj => (h2 j (by rw [List.length_map]; rw [hM] at hj; exact hj)).trans (hcell j hj))).mono ?_
    rintro e w' ⟨he, q, hw⟩
    refine ⟨by rw [he, decide_eq_true rfl], ?_⟩
    rw [hw]
    exact below_drewN (Below.refl _ _) _
theorem wpList_append_src {P : Program} {w : World} {ops : Array Oper} {rest : List Oper} {o : Oper} {a : Act} {Q : Exit → Act → World → Prop} (hgd : o.guard = none) (s x : Operand) (t : TypeId)
    (ho : o.op = .call { callee := .builtin .append, args := #[s, x], argTypes := #[t, t] })
    (base : Nat) (e : TypeId) (i : TypeInfo) (z : Value) (size bytes : Nat) (ht : P.underlying t = some (.slice e)) (hi : P.info? e = some i) (hz : i.zero = some z)
    (hsize : i.size = size) (hby : i.bytes = bytes) (hzs : z.cells.size = size) (hsz : 0 < size)
    (v : Value) (n : Nat) (xs : List Value) (hs : a.eval s = v) (hown : w.ownsRow base e size v n xs)
    (v2 : Value) (m : Nat) (news : List Value) (hx : a.eval x = v2) (hsrc : SrcAt w v2 m news) (hl : news.length = m * size) (h1 : ∀ u ∈ news, u.oneCell' = true)
    (h63 : n + m ≤ maxLen) (hbytes : (n + m) * bytes ≤ 140737488355328) (hbase : base ≤ w.heap.size)
    (h : ∀ v' w', w'.ownsRow base e size v' (n + m) (xs ++ news) → w.grownBy w' v.ownBlock → (v' = .slice none 0 0 ↔ v = .slice none 0 0 ∧ m = 0) → wpList P ops Q rest (a.put o.dst v') w') : wpList P ops Q (o :: rest) a w := by
  refine wpList_plain hgd fun _ hK => ?_
  rcases hsrc with ⟨rfl, rfl⟩ | ⟨ad, c, rfl, hc⟩
  · have hn : news = [] := List.eq_nil_of_length_eq_zero (by simpa using hl)
    subst hn
    have hrun := run_append_owned_none (P := P) (w := w) base t o.type e i size ht hi v n xs hown
    unfold Oper.wp
    simp [execOp, ho, resolve, invoke, builtin, hs, hx, hrun, Result.andThen]
    exact hK _ _ (h v w (by simpa using hown) (World.grownBy.refl w _) (by simp))
  · exact wp_append_own w s x t ho base e i z size bytes ht hi hz hsize hby hzs hsz v n xs hs hown ad m c news hx hl hc h1 h63 hbytes hbase fun v' w' h2 h3 h4 => hK _ _ (h v' w' h2 h3 h4)
end Go.Proofs.YtnjpfhihbjihbaaGreatDoor

/- The walk of the law SymbolsKnown. -/
namespace Go.Proofs.YtnjpfhihbjihbaaGreatDoor
open Go.RowKit Go.Sort

open Go.ChangeMaps
theorem bthen2 {w u v : World} (h : Below w.heap.size w u) (k : Below u.heap.size u v) : Below w.heap.size w v := h.trans (k.mono h.size)
theorem symD_name {d : Dfn} {s : Sy} (h : symD d = some s) : s.name.size ≤ 50 := by
  obtain ⟨ex, rfl⟩ := symD_form h
  unfold symD at h
  split at h
  · rename_i hs; exact hs.1
  · cases h
theorem foldD_names : ∀ (l : List Dfn) (L M : List Sy), (∀ s ∈ L, s.name.size ≤ 50) → foldD L l = some M → ∀ s ∈ M, s.name.size ≤ 50
  | [], L, M, h, hf => by cases hf; exact h
  | d :: l, L, M, h, hf => by
    unfold foldD at hf
    split at hf
    · cases hf
    · rename_i N hN
      refine foldD_names l N M ?_ hf
      unfold stepD at hN
      rcases hd : symD d with _ | s
      · rw [hd] at hN; cases hN
      · rw [hd, Option.map_some, Option.some.injEq] at hN
        split at hN
        · subst hN; exact h
        · subst hN
          intro x hx
          rcases List.mem_append.1 hx with hx | hx
          · exact h x hx
          · rw [List.mem_singleton] at hx; subst hx; exact symD_name hd
theorem tableD_names {l : List Dfn} {L : List Sy} (h : tableD l = some L) : ∀ s ∈ L, s.name.size ≤ 50 := by
  unfold tableD at h
  split at h
  · cases h
  · exact foldD_names l [] L (fun s hs => by cases hs) h
theorem enc_self (s : ByteArray) : Proofs.encStr s.data.toList = .string s := by
  show Value.string ⟨s.data.toList.toArray⟩ = .string s
  simp
/-- What the tables give. -/
structure Tabs20P (w : World) (g b : Nat) (rv : Value) (L : List Sy) (M R : List (Sy × Value)) : Prop where
  ti : TabIn w g b M
  hm : M.map Prod.fst = L.map Sy.norm
  rt : RTab w rv R
  hr : R.map Prod.fst = L
  okM : ∀ y ∈ M, SyOk y.1
  okR : ∀ y ∈ R, SyOk y.1
  ndR : ((R.map Prod.fst).map Sy.name).Nodup
  lenR : R.length ≤ 1000
  lenM : M.length ≤ 1000
  nmM : ∀ y ∈ M, y.1.name.size ≤ 1000
  nmsM : (M.map fun x => x.1.name.data.toList) = L.map fun s => s.name.data.toList
theorem Tabs20.parts {w : World} {g b : Nat} {rv : Value} {l : List Dfn} {L : List Sy} (h : Tabs20 w g b rv L) (hL : tableD l = some L) : ∃ M R, Tabs20P w g b rv L M R := by
  obtain ⟨M, R, hTI, hM, hRT, hR0, hnil⟩ := h
  have htab := tableD_ok hL
  have hnm := tableD_names hL
  have hmem : ∀ y ∈ M, ∃ s ∈ L, y.1 = s.norm := fun y hy => by
    have h1 : y.1 ∈ M.map Prod.fst := List.mem_map_of_mem hy
    rw [hM] at h1
    obtain ⟨s', hs', e⟩ := List.mem_map.1 h1
    exact ⟨s', hs', e.symm⟩
  refine ⟨M, R, hTI, hM, hRT, hR0, fun y hy => ?_, fun y hy => htab.1.ok _ (by rw [← hR0]; exact List.mem_map_of_mem hy), by rw [hR0]; exact htab.1.nodup, ?_, ?_, fun y hy => ?_, ?_⟩
  · obtain ⟨s, hs, e⟩ := hmem y hy
    rw [e]; exact norm_ok (htab.1.ok s hs)
  · have := htab.2
    rw [← hR0, List.length_map] at this
    omega
  · have h1 := congrArg List.length hM
    rw [List.length_map, List.length_map] at h1
    have := htab.2
    omega
  · obtain ⟨s, hs, e⟩ := hmem y hy
    rw [e, norm_name]
    have := hnm s hs
    omega
  · have h1 : (M.map fun x => x.1.name.data.toList) = (M.map Prod.fst).map fun s => s.name.data.toList := by rw [List.map_map]; rfl
    rw [h1, hM, List.map_map]
    exact List.map_congr_left fun s _ => by simp only [Function.comp_apply, norm_name]
theorem Tabs20P.below {w w' : World} {g b : Nat} {rv : Value} {L : List Sy} {M R : List (Sy × Value)} (h : Tabs20P w g b rv L M R) (hb : Below w.heap.size w w') : Tabs20P w' g b rv L M R :=
  ⟨h.ti.below hb, h.hm, h.rt.below hb, h.hr, h.okM, h.okR, h.ndR, h.lenR, h.lenM, h.nmM, h.nmsM⟩
theorem Tabs20P.known {w : World} {g b : Nat} {rv : Value} {L : List Sy} {M R : List (Sy × Value)} (h : Tabs20P w g b rv L M R) :
    Calls Tryz.prog 19 #[.pointer (some ⟨g, 0, none⟩)] w fun e w' => ∃ m, e = .returned m ∧ KnMap w' L m ∧ Below w.heap.size w w' :=
  (known_any g b M h.okM w h.ti).mono fun e w' ⟨m, h1, h2, h3⟩ => ⟨m, h1, by
    obtain ⟨bo, lO, q1, q2, q3⟩ := h2
    refine ⟨bo, lO, q1, q2, fun t => ?_⟩
    rw [q3, h.hm, norm_Kn], h3⟩
theorem Tabs20P.rknown {w : World} {g b : Nat} {rv : Value} {L : List Sy} {M R : List (Sy × Value)} (h : Tabs20P w g b rv L M R) :
    Calls Tryz.prog 15 #[rv] w fun e w' => ∃ vo, e = .returned vo ∧ Row w' vo (knownR L).length (valc (knownR L)) ∧ Below w.heap.size w w' := by
  have := known20_any R rv w h.rt h.lenR h.okR h.ndR
  rw [h.hr] at this
  exact this
theorem Tabs20P.same {w : World} {g b : Nat} {rv : Value} {L : List Sy} {M R : List (Sy × Value)} (h : Tabs20P w g b rv L M R) (m v : Value) (w' : World) (hm : KnMap w' L m) (hr : Row w' v (knownR L).length (valc (knownR L))) :
    Calls Tryz.prog 18 #[m, v] w' fun e w'' => e = .returned (.bool true) ∧ Below w'.heap.size w' w'' := by
  have hn : (L.map Sy.name).Nodup := by rw [← h.hr]; exact h.ndR
  refine same20_any L (knownR L) (knownR_env hn) (knownR_nodup hn) (Nat.le_trans (knownR_len hn) ?_) m v w' hm hr
  have := h.lenR
  rw [← h.hr, List.length_map]; omega
theorem Tabs20P.names {w : World} {g b : Nat} {rv : Value} {L : List Sy} {M R : List (Sy × Value)} (h : Tabs20P w g b rv L M R) :
    Calls Tryz.prog 22 #[.pointer (some ⟨g, 0, none⟩)] w (NmRes (L.map fun s => s.name.data.toList) w) := by
  rw [← h.nmsM]
  exact namesT_any g b M h.lenM h.nmM w h.ti
set_option maxHeartbeats 4000000 in
set_option maxRecDepth 100000 in
theorem lawSKnown (v : Value) (l : List Dfn) (w : World) (h0 : Row w v l.length (l.flatMap dfnc) ∧ l.length ≤ maxLen ∧ ∀ d ∈ l, d.name.size ≤ maxLen ∧ d.text.size ≤ maxLen) :
    Calls Tryz.prog 5 #[v] w fun e w' => e = .returned (.bool true) ∧ Below w.heap.size w w' := by
  obtain ⟨i0, hi, hz0, hz1, hz2⟩ := info_parts Tryz.infoString
  have hbu := build_any l v w h0.1 h0.2.1 h0.2.2
  unfold BuildRes at hbu
  have HBU := Lib.hid hbu
  clear hbu h0
  go_enter Tryz.func5, Tryz.ntmps5
  go_wp2_with fail
  (with_reducible refine HBU.out.mono ?_)
  rintro e w2 ⟨hb2, hres⟩
  have HBW := Lib.hid hb2
  clear hb2
  rcases hres with ⟨_, rfl⟩ | ⟨L, g, b, rv, hL, rfl, htabs, _⟩
  · go_wp2_with fail
    (with_reducible refine (alive20 _).mono ?_)
    rintro e w4 ⟨rfl, hb4⟩
    have HB4 := Lib.hid hb4; clear hb4
    go_wp2_with fail
    go_ret
    exact ⟨rfl, bthen2 HBW.out HB4.out⟩
  · obtain ⟨M, R, hp⟩ := htabs.parts hL
    have HP := Lib.hid hp
    obtain ⟨a, cap, rfl, hcap, hc⟩ := hp.rt.parts
    have hlenR := hp.lenR
    have hl1 : (R.length : Int) ≤ 1000 := by omega
    have hc1 : (R.length : Int) ≤ (cap : Int) := by omega
    have HC := Lib.hid hc
    obtain ⟨ns, hns⟩ : ∃ ns, (L.map fun s => s.name.data.toList) = ns := ⟨_, rfl⟩
    have hnl : ns.length = R.length := by rw [← hns, ← hp.hr]; simp
    have HNS : Hid (∀ (k : Nat) (x : Sy × Value), R[k]? = some x → ns[k]? = some x.1.name.data.toList) := Lib.hid fun k x hx => by
      rw [← hns, ← hp.hr, List.getElem?_map, List.getElem?_map, hx]; rfl
    have HNAM : Hid (∀ w', Below w2.heap.size w2 w' → Calls Tryz.prog 22 #[.pointer (some ⟨g, 0, none⟩)] w' (NmRes ns w')) := Lib.hid fun w' hb => by rw [← hns]; exact (hp.below hb).names
    have HNL := Lib.hid hnl
    clear hc htabs hL hp hns hnl
    go_wp2_with fail
    go_loopw [6, 23] (fun u i wr => ∃ k : Nat, k ≤ R.length ∧ i = .int .i64 k ∧ wr.ownsRow w2.heap.size 9 1 u k ((ns.take k).map Proofs.encStr) ∧ (k = 0 → u = .slice none 0 0) ∧ Below w2.heap.size w2 wr) (fun _ i _ => R.length - (intOf i).toNat)
    case atStart => exact ⟨0, Nat.zero_le _, rfl, World.ownsRow_nil _ _ _ _, fun _ => rfl, Below.refl _ _⟩
    case round =>
      obtain ⟨k, hk, rfl, hown, hnil, hbel⟩ := hrel
      have HOWN := Lib.hid hown
      have HBEL := Lib.hid hbel
      have HNIL := Lib.hid hnil
      have hszr : w2.heap.size ≤ wr.heap.size := hbel.size
      clear hown hbel hnil
      by_cases hlt : k < R.length
      · obtain ⟨x, hx⟩ : ∃ x, R[k]? = some x := ⟨_, List.getElem?_eq_getElem hlt⟩
        obtain ⟨gr, o, rfl, hgr, hcs⟩ := HC.out (by rintro rfl; simp at hx)
        obtain ⟨e0, e1, e2, e3, e4⟩ := hcs k x hx
        have hb := HBEL.out
        have f0 := (hb.cell (p := ⟨gr, o + k * 5, none⟩) hgr).trans e0
        have f1 := (hb.cell (p := ⟨gr, o + k * 5 + 1, none⟩) hgr).trans e1
        have f2 := (hb.cell (p := ⟨gr, o + k * 5 + 2, none⟩) hgr).trans e2
        have f3 := (hb.cell (p := ⟨gr, o + k * 5 + 3, none⟩) hgr).trans e3
        have f4 := (hb.cell (p := ⟨gr, o + k * 5 + 4, none⟩) hgr).trans e4
        have hnk := HNS.out k x hx
        obtain ⟨px, hpx⟩ := (HP.out.rt.2 x (List.mem_of_getElem? hx)).ptr
        obtain ⟨⟨name, n, ex, here, line⟩, xv⟩ := x
        dsimp only at *
        subst hpx
        have HS : Hid (ns.take (k + 1) = ns.take k ++ [name.data.toList]) := Lib.hid (by rw [List.take_add_one, hnk]; rfl)
        have hi0 : (0 : Int) ≤ (k : Int) := by omega
        have hi1 : (k : Int) < (R.length : Int) := by omega
        clear hcs e0 e1 e2 e3 e4 hb hx hnk
        go_wp2_with (at_builtin; refine wpList_append_own _ rfl _ _ 45 rfl w2.heap.size 9 i0 (.string ⟨#[]⟩) 1 16 Tryz.underlying45 hi hz0 hz1 hz2 rfl (by decide) _ _ _ rfl (owns_below' HOWN.out (by (repeat (first | exact Below.refl _ _ | refine Below.drew ?_ | (refine below_gw' ?_ (by first | omega | (simp [go_sem]; done) | (simp [go_sem]; omega)) _) | (refine Below.alloc ?_ (by first | omega | (simp [go_sem]; done) | (simp [go_sem]; omega)) _) | (refine Below.setCell ?_ (by first | omega | (simp [go_sem]; done) | (simp [go_sem]; omega)) _))))) _ 1 1 [.string name] rfl rfl ?d1 ?d2 ?d3 ?d4 ?d5 ?_)
        case d1 =>
          intro q u hq
          rw [addr_add]
          match q, hq with
          | 0, hq => simp at hq; subst hq; simp [go_sem]
        case d2 => first | exact ⟨rfl⟩ | (intro u hu; simp at hu; rcases hu with rfl; rfl) | rfl
        case d3 => unfold maxLen; omega
        case d4 => omega
        case d5 => (first | omega | (simp [go_sem]; done) | (simp [go_sem]; omega))
        intro v' w3 hown' hgrow hnil'
        have hb' : Below w2.heap.size w2 w3 := (HBEL.out.trans (Below.mono (show Below wr.heap.size wr _ by (repeat (first | exact Below.refl _ _ | refine Below.drew ?_ | (refine below_gw' ?_ (by first | omega | (simp [go_sem]; done) | (simp [go_sem]; omega)) _) | (refine Below.alloc ?_ (by first | omega | (simp [go_sem]; done) | (simp [go_sem]; omega)) _) | (refine Below.setCell ?_ (by first | omega | (simp [go_sem]; done) | (simp [go_sem]; omega)) _)))) hszr)).grown hgrow (by (first | omega | (simp [go_sem]; done) | (simp [go_sem]; omega))) (own_low HOWN.out)
        have HOWN3 := Lib.hid hown'; clear hown'
        have HB' := Lib.hid hb'; clear hb' hgrow hnil'
        go_wp2_with fail
        go_roundw
        case rel => exact ⟨k + 1, by omega, by go_num, by rw [HS.out, List.map_append, List.map_take]; have := HOWN3.out; rw [← enc_self name] at this; exact this, fun h => by omega, HB'.out⟩
        case measure => simp [intOf]; omega
      · obtain rfl : k = R.length := by omega
        have hown := HOWN.out
        rw [← HNL.out, List.take_length] at hown
        have hn0 : ns = [] → u6 = .slice none 0 0 := fun h => HNIL.out (by rw [← HNL.out, h]; rfl)
        have hso := sort_any w2.heap.size u6 ns wr hown hn0 (by rw [HNL.out]; omega) hszr
        have HSO := Lib.hid hso
        have HN0 := Lib.hid hn0
        clear hso hown hn0
        go_wp2_with fail
        (with_reducible refine HSO.out.mono ?_)
        rintro e w3 ⟨rfl, hown3, hb3⟩
        have HR3 := Lib.hid (Row.of_owns hown3)
        have HB3 : Hid (Below w2.heap.size w2 w3) := Lib.hid (HBEL.out.trans hb3)
        clear hown3 hb3
        go_wp2_with fail
        (with_reducible refine (alive20 _).mono ?_)
        rintro e w4 ⟨rfl, hb4⟩
        have HR4 := Lib.hid (HR3.out.below hb4)
        have HB4 : Hid (Below w2.heap.size w2 w4) := Lib.hid (bthen2 HB3.out hb4)
        clear hb4
        go_wp2_with fail
        (with_reducible refine (HP.out.below HB4.out).known.mono ?_)
        rintro e w5 ⟨m, rfl, hm5, hb5⟩
        have HR5 := Lib.hid (HR4.out.below hb5)
        have HB5 : Hid (Below w2.heap.size w2 w5) := Lib.hid (bthen2 HB4.out hb5)
        have HM5 := Lib.hid hm5
        clear hb5 hm5
        go_wp2_with fail
        (with_reducible refine (HP.out.below HB5.out).rknown.mono ?_)
        rintro e w6 ⟨vo, rfl, hr6, hb6⟩
        have HR6 := Lib.hid (HR5.out.below hb6)
        have HB6 : Hid (Below w2.heap.size w2 w6) := Lib.hid (bthen2 HB5.out hb6)
        have HM6 := Lib.hid (HM5.out.below hb6)
        have HV6 := Lib.hid hr6
        clear hb6 hr6
        go_wp2_with fail
        (with_reducible refine (HP.out.same _ _ _ HM6.out HV6.out).mono ?_)
        rintro e w7 ⟨rfl, hb7⟩
        have HR7 := Lib.hid (HR6.out.below hb7)
        have HB7 : Hid (Below w2.heap.size w2 w7) := Lib.hid (bthen2 HB6.out hb7)
        clear hb7
        go_wp2_with fail
        (with_reducible refine (HNAM.out _ HB7.out).mono ?_)
        rintro e w8 ⟨vn, rfl, hrow8, _, hb8⟩
        have HR8 := Lib.hid (HR7.out.below hb8)
        have HB8 : Hid (Below w2.heap.size w2 w8) := Lib.hid (bthen2 HB7.out hb8)
        have HN8 := Lib.hid (Row.of_owns hrow8)
        have hr8 : Row w8 u6 (sortL ns).length ((sortL ns).map Proofs.encStr) := by rw [sortL_len]; exact HR8.out
        have HS8 := Lib.hid hr8; clear hr8
        clear hb8 hrow8
        go_wp2_with fail
        (with_reducible refine (equalRow_any _ _ (sortL ns) _ HN8.out HS8.out (by rw [sortL_len, HNL.out]; omega)).mono ?_)
        rintro e w9 ⟨rfl, hb9⟩
        have HB9 : Hid (Below w2.heap.size w2 w9) := Lib.hid (bthen2 HB8.out hb9)
        clear hb9
        go_wp2_with fail
        go_ret
        exact ⟨rfl, bthen2 HBW.out HB9.out⟩
end Go.Proofs.YtnjpfhihbjihbaaGreatDoor

/- The statement SymbolsKnown of chapter 20: proved for every input; no condition beyond the statement's own. -/
namespace Go.Proofs.YtnjpfhihbjihbaaGreatDoor.lawSymbolsKnown
open Go.ChangeShapes Go.WideShapes Go.ChangeAt Go.RowKit Go.Joins
open Go.ChangeMaps (open_string shut_string)

theorem own : ownKnob Tryz.prog.godebug = none := by kernel_rfl
theorem laidOut : laidOutB Tryz.prog = true := by kernel_rfl

/-- A table of the row's list reads as it is listed, wherever it stands on the list. -/
theorem tab_of_list {P : Program} {W : World} {name : String} {k : IntKind} {zs : List Int} {g : Nat} {t e : TypeId} {n : Nat}
    (hg : P.globalNamed name = some g) (hty : (P.globals[g]?).map (·.type) = some t) (ht : P.underlying t = some (.array n e)) (he : P.underlying e = some (.int k)) (hce : P.cellsOf e = 1) (hct : P.cellsOf t = n) :
    ∀ (l : List (String × DataW Unit)) (ps : List MemPlace), DataW.LaidVars P W l ps → (name, Lib.tabData k zs) ∈ l → Lib.TabIs P W name k zs
  | [], _, _, hm => by cases hm
  | x :: l, ps, h, hm => by
    obtain ⟨nm, d⟩ := x
    obtain ⟨g', t', cs, fuel, p, q, hg', ht', hvar, hd, hrest, _⟩ := h
    rcases List.mem_cons.1 hm with hm | hm
    · cases hm
      obtain rfl := Option.some.inj (hg.symm.trans hg')
      obtain rfl := Option.some.inj (hty.symm.trans ht')
      unfold Lib.TabIs
      rw [hvar, ← Lib.cells_of_tab ht he hce hct hd]
    · exact tab_of_list hg hty ht he hce hct l q hrest hm

theorem table {W : World} (h : laidMetH Tryz.prog Rows.symbolsKnownRow.laid W) : Tabs W := by
  obtain ⟨ps, hv, _⟩ := h
  have ht : Lib.TabIs Tryz.prog W "math/bits.deBruijn64tab" .u8 [0, 1, 56, 2, 57, 49, 28, 3, 61, 58, 42, 50, 38, 29, 17, 4, 62, 47, 59, 36, 45, 43, 51, 22, 53, 39, 33, 30, 24, 18, 12, 5, 63, 55, 48, 27, 60, 41, 37, 16, 46, 35, 44, 21, 52, 32, 23, 11, 54, 26, 40, 15, 34, 20, 31, 10, 25, 14, 19, 9, 13, 8, 7, 6] :=
    tab_of_list (g := 3) (t := 249) (e := 5) (n := 64) (by kernel_rfl) (by kernel_rfl) Tryz.underlying249 Tryz.underlying5 (by kernel_rfl) (by kernel_rfl) _ ps hv (.tail _ (.head _))
  exact ht.cell (by kernel_rfl) 15 (by decide)

set_option maxRecDepth 100000 in
/-- What the walk gives, for every argument and every world that holds the tables. -/
theorem contract (H : Type) (enc : TypeId × Value → H) (W : World) (base : Nat) (args : Array Value) (ds gs : List (DataW H)) (before : List MemPlace)
    (hval : ∀ (j : Nat) t v, Tryz.f5.params[j]? = some t → args[j]? = some v → Value.okWide Tryz.prog W .any base t v)
    (hW : DataW.Whole enc Tryz.prog Tryz.f5.params.toList Rows.symbolsKnownSpec.vars false W args.toList ds gs before) (_hL : laidMetH Tryz.prog Rows.symbolsKnownRow.laid W) :
    Calls Tryz.prog 5 args W fun e W' => ∃ v, e = .returned v ∧ Rows.symbolsKnownSpec.post enc Tryz.prog Tryz.f5 false true false false W args v W' := by
  have hW' := hW
  obtain ⟨p, q, hA0, hV, rfl, hfz, hnd⟩ := hW
  have hA : DataW.TrodAll enc Tryz.prog W 0 (fun _ => true) true Tryz.f5.params.toList args.toList ds p := hA0
  rw [Tryz.params5] at hA hval
  obtain ⟨v0, vs0, d0, ds0, p0, q0, hargs, rfl, rfl, h0, r0⟩ := trodAll_cons hA
  obtain ⟨rfl, rfl, rfl⟩ := trodAll_nil r0
  obtain rfl : args = #[v0] := by cases args; simp_all
  obtain ⟨rfl, rfl⟩ := trodVars_none hV
  have k0 := h0
  have lt0 : ∀ x ∈ p0, x.block < W.heap.size := by obtain ⟨m, hm⟩ := k0; exact DataW.trod_lt m _ _ _ hm
  obtain ⟨L0, hr0⟩ := open_dfns (hval 0 22 v0 rfl rfl) h0
  refine (lawSKnown v0 L0 W hr0).mono fun e W' ⟨he, bel⟩ => ?_
  subst he
  exact ⟨_, rfl, _, _, _, [], _, [], hW', trodAll_mk1 (shut_bool Tryz.underlying4 _), (trodAll_cons_mk (Below.trod laidOut (by kernel_rfl) (of_decide_eq_true (by kernel_rfl)) k0 bel lt0) trodAll_mk0), rfl, bel.frame _, fun h => by cases h⟩

/-- A world for the witness: the settled one, the tables holding what their initialisers lay. -/
noncomputable def laidWorld (os : Os) : World :=
  { World.holding Tryz.prog os ⟨#[], #[], []⟩ with heap := ((((World.holding Tryz.prog os ⟨#[], #[], []⟩).heap.modify 2 fun
      | .cells _ t frozen => .cells #[.int .u8 0, .int .u8 1, .int .u8 28, .int .u8 2, .int .u8 29, .int .u8 14, .int .u8 24, .int .u8 3, .int .u8 30, .int .u8 22, .int .u8 20, .int .u8 15, .int .u8 25, .int .u8 17, .int .u8 4, .int .u8 8, .int .u8 31, .int .u8 27, .int .u8 13, .int .u8 23, .int .u8 21, .int .u8 19, .int .u8 16, .int .u8 7, .int .u8 26, .int .u8 12, .int .u8 18, .int .u8 6, .int .u8 11, .int .u8 5, .int .u8 10, .int .u8 9] t frozen
      | o => o).modify 3 fun
      | .cells _ t frozen => .cells #[.int .u8 0, .int .u8 1, .int .u8 56, .int .u8 2, .int .u8 57, .int .u8 49, .int .u8 28, .int .u8 3, .int .u8 61, .int .u8 58, .int .u8 42, .int .u8 50, .int .u8 38, .int .u8 29, .int .u8 17, .int .u8 4, .int .u8 62, .int .u8 47, .int .u8 59, .int .u8 36, .int .u8 45, .int .u8 43, .int .u8 51, .int .u8 22, .int .u8 53, .int .u8 39, .int .u8 33, .int .u8 30, .int .u8 24, .int .u8 18, .int .u8 12, .int .u8 5, .int .u8 63, .int .u8 55, .int .u8 48, .int .u8 27, .int .u8 60, .int .u8 41, .int .u8 37, .int .u8 16, .int .u8 46, .int .u8 35, .int .u8 44, .int .u8 21, .int .u8 52, .int .u8 32, .int .u8 23, .int .u8 11, .int .u8 54, .int .u8 26, .int .u8 40, .int .u8 15, .int .u8 34, .int .u8 20, .int .u8 31, .int .u8 10, .int .u8 25, .int .u8 14, .int .u8 19, .int .u8 9, .int .u8 13, .int .u8 8, .int .u8 7, .int .u8 6] t frozen
      | o => o).modify 1 fun
      | .cells _ t frozen => .cells #[.int .u64 1, .int .u64 10, .int .u64 100, .int .u64 1000, .int .u64 10000, .int .u64 100000, .int .u64 1000000, .int .u64 10000000, .int .u64 100000000, .int .u64 1000000000, .int .u64 10000000000, .int .u64 100000000000, .int .u64 1000000000000, .int .u64 10000000000000, .int .u64 100000000000000, .int .u64 1000000000000000, .int .u64 10000000000000000, .int .u64 100000000000000000, .int .u64 1000000000000000000, .int .u64 10000000000000000000] t frozen
      | o => o) }
theorem laid_met (os : Os) : laidMet Tryz.prog Rows.symbolsKnownRow.laid ((laidWorld os).forCall (fun _ _ => 0) ⟨#[], #[Value.slice none 0 0], []⟩).memory :=
  laidMet_of_run' 8 (by kernel_rfl) (by kernel_rfl)
theorem reads (os : Os) {H : Type} (enc : TypeId × Value → H) : ∃ places, DataW.whole enc Tryz.prog ((laidWorld os).forCall (fun _ _ => 0) ⟨#[], #[Value.slice none 0 0], []⟩).memory Tryz.f5.params.toList Rows.symbolsKnownSpec.vars false (#[Value.slice none 0 0] : Array Value).toList 8 = some ([.nil], [], places) :=
  ⟨[], by kernel_rfl⟩

set_option maxRecDepth 100000 in
theorem lifted (os : Os) (started : os.Started) (H : Type) (enc : TypeId × Value → H) (F : Stop.Interp) :
    ReturnsInHanded {} Tryz.checked os 5 .any ((OpenSpec.ofChange Rows.symbolsKnownSpec).preRow enc Tryz.prog Tryz.f5 Rows.symbolsKnownRow.domain false Rows.symbolsKnownRow.laid) (((OpenSpec.ofChange Rows.symbolsKnownSpec).at F).post enc Tryz.prog Tryz.f5 false true false false) := by
  obtain ⟨places, hx⟩ := reads os enc
  refine returnsInHanded_of_row (C := Tryz.checked) (s := OpenSpec.ofChange Rows.symbolsKnownSpec) own started (by kernel_rfl) Tryz.func5
    (witness_row_at (enc := enc) (C := Tryz.checked) false (laidWorld os) #[Value.slice none 0 0] rfl (by kernel_rfl) (by kernel_rfl) (by kernel_rfl)
      (OpenSpec.preRow_of_cond 8 hx (by kernel_rfl) (fun k hk => by cases hk) (by kernel_rfl) (laid_met os))) ?_
  intro W base args ds gs before hval hW _ _ _ hL _ _
  exact contract H enc W base args ds gs before hval hW hL

theorem said : Rows.SymbolsKnownSaid :=
  OpenClaim.holds_of_cond 5 Tryz.f5 rfl rfl rfl rfl rfl rfl rfl ⟨rfl, rfl, rfl, rfl, rfl⟩ rfl rfl rfl rfl rfl (by kernel_rfl) Tryz.func5 (by kernel_rfl)
    (of_decide_eq_true (by kernel_rfl)) (by unfold Func.isWrapper; first | (rw [if_pos (by decide +kernel)]; kernel_rfl) | (rw [if_neg (by decide +kernel)]; exact ⟨rfl, rfl⟩))
    (fun os started H enc _ F => by rw [OpenClaim.pre_eq_preRow]; exact lifted os started H enc F)

/-- No parameter wants a stand-in; the program's own looks are off. -/
theorem plain (f : FuncId) (fn : Func) (hf : Tryz.pinned.checked.prog.funcNamed "breadboard/breadboardlaw20.SymbolsKnown" = some f) (hfn : Tryz.pinned.checked.prog.funcs[f]? = some fn) :
    true = Tryz.pinned.checked.prog.looks [] ∧ ∀ (j : Nat) t, fn.params[j]? = some t → Tryz.pinned.checked.prog.wantsStandIn t = false := by
  obtain rfl : f = 5 := Option.some.inj ((show Tryz.prog.funcNamed "breadboard/breadboardlaw20.SymbolsKnown" = some 5 by kernel_rfl).symm.trans hf) |>.symm
  obtain rfl : fn = Tryz.f5 := (Option.some.inj (Tryz.func5.symm.trans hfn)).symm
  refine ⟨by kernel_rfl, fun j t ht => ?_⟩
  rw [Tryz.params5] at ht
  have hm : t ∈ [22] := by simpa using Array.mem_of_getElem? ht
  have hall : ([22].all fun u => !Tryz.prog.wantsStandIn u) = true := by kernel_rfl
  exact (show Tryz.prog.wantsStandIn t = false by simpa using List.all_eq_true.1 hall t hm)

/-- The card. -/
theorem proved : Rows.SymbolsKnownCardSaid :=
  Claim7.holds_tied_plain_at .later [] _ _ _ _ said (fun _ h => by cases h) (by kernel_rfl) (fun _ h => by cases h) symbolsKnown_row_tie rfl ⟨rfl, rfl⟩ (by kernel_rfl) rfl plain (by kernel_rfl)
end Go.Proofs.YtnjpfhihbjihbaaGreatDoor.lawSymbolsKnown
