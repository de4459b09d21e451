/- Joined texts: RParse17, SMap, Ranged, OpRaw, Eval. -/
import Derived.Test.YtnjpfhihbjihbaaGreatDoorS03
import Derived.Test.YtnjpfhihbjihbaaGreatDoorS05
import Derived.Test.YtnjpfhihbjihbaaGreatDoorS09
import Derived.Test.YtnjpfhihbjihbaaGreatDoorS11
import Derived.Test.YtnjpfhihbjihbaaGreatDoorS15
import Derived.Test.YtnjpfhihbjihbaaGreatDoorS16
/- breadboardref17.Parse. -/
namespace Go.Proofs.YtnjpfhihbjihbaaGreatDoor
open Go.RowKit Go.Sort

theorem resv_O (y : List UInt8) : decide (0 < ((namedO ⟨y.toArray⟩).length : Int)) = resv y := by
  have h : (namedO ⟨y.toArray⟩).length = (namedL ⟨y.toArray⟩).length := by simp [namedO]
  unfold resv
  rw [h]
  rw [decide_eq_decide]
  omega
/-- What the reference makes of an expression. -/
def rparsed : Option Ex → Int × Option Ex
  | none => (3, none)
  | some x => if (oSyms (some x)).any resv then (21, none) else (0, some x)
def RParseRes (l : List Tok) (w : World) (e : Ending) (w' : World) : Prop := ∃ res, T exLang l res ∧ ∃ vt, e = .returned (.tuple #[vt, .int .i64 (rparsed res).1]) ∧ OptAt 89 w' (rparsed res).2 vt ∧ Below w.heap.size w w'
set_option maxHeartbeats 2000000 in
set_option maxRecDepth 100000 in
theorem rparse17_any (l : List Tok) (v : Value) (w : World) (hr : Row w v l.length (tokc l)) (hs : Small l) (hl : l.length ≤ 1000000) (hn : ∀ x, T exLang l (some x) → x.nodes ≤ 1000000 ∧ SymsOk x) :
    Calls Tryz.prog 36 #[v] w (RParseRes l w) := by
  have htr := tree_any l v w hr hs hl
  have HTR := Lib.hid htr; clear htr
  obtain ⟨a, cap, rfl, _⟩ := hr
  have HN := Lib.hid hn; clear hn hs hl
  go_enter Tryz.func36, Tryz.ntmps36
  go_wp2_with fail
  (with_reducible refine HTR.out.mono ?_)
  rintro e w1 ⟨res, hT, vt, rfl, hot, hb1⟩
  obtain ⟨p1, rfl⟩ := gw_of_below hb1
  clear hb1
  have HT := Lib.hid hT; clear hT
  have HOT := Lib.hid hot; clear hot
  rcases res with _ | x
  · obtain rfl : vt = .pointer none := HOT.out
    go_wp2_with fail
    exact bodyPost_ret (v := .tuple #[.pointer none, .int .i64 3]) (by simp [results, Tryz.results36, go_sem]) rfl ⟨none, HT.out, _, rfl, rfl, by (repeat (first | exact Below.refl _ _ | refine Below.drew ?_ | (refine below_gw' ?_ (by first | omega | (simp [go_sem]; done) | (simp [go_sem]; omega)) _) | (refine Below.alloc ?_ (by first | omega | (simp [go_sem]; done) | (simp [go_sem]; omega)) _) | (refine Below.setCell ?_ (by first | omega | (simp [go_sem]; done) | (simp [go_sem]; omega)) _)))⟩
  · obtain ⟨gx, rfl, hgx⟩ := NodeAt.ptr HOT.out
    have hnd := HN.out x HT.out
    have hnm := rnames17_any x.nodes (some x) (Nat.le_refl _) hnd.1 (.pointer (some ⟨gx, 0, none⟩)) (gw w p1) HOT.out
    have hlen : (oSyms (some x)).length ≤ 1000000 := Nat.le_trans (oSyms_len (some x)) hnd.1
    have hsz : ∀ y ∈ oSyms (some x), y.length ≤ 1000000 := fun y hy => by
      simp only [oSyms, List.mem_map] at hy
      obtain ⟨z, hz, rfl⟩ := hy
      have := hnd.2 z hz
      rw [Array.length_toList]
      exact this
    have HNM := Lib.hid hnm; clear hnm hnd
    have hrp : rparsed (some x) = if (oSyms (some x)).any resv then (21, none) else (0, some x) := rfl
    have HRP := Lib.hid hrp; clear hrp HN
    unfold RNRes at HNM
    generalize oSyms (some x) = L at *
    have HSZ := Lib.hid hsz; clear hsz
    go_wp2_with fail
    (with_reducible refine HNM.out.mono ?_)
    rintro e w2 ⟨vn, rfl, hown, _, hb2⟩
    obtain ⟨an, cn, rfl, hcn, hrow⟩ := Row.of_owns hown
    have HROW := Lib.hid hrow; clear hrow
    obtain ⟨p2, rfl⟩ := gw_of_below hb2
    clear hb2 hown HNM
    go_wp2_with fail
    go_loopw [6] (fun i wr => ∃ k : Nat, k ≤ L.length ∧ i = .int .i64 k ∧ Below (gw (gw w p1) p2).heap.size (gw (gw w p1) p2) wr ∧ Hid ((L.take k).any resv = false)) (fun i _ => L.length - (intOf i).toNat)
    case atStart => exact ⟨0, Nat.zero_le _, rfl, Below.refl _ _, Lib.hid (by simp)⟩
    case round =>
      obtain ⟨k, hk, rfl, hbel, Hno⟩ := hrel
      have HBEL := Lib.hid hbel; clear hbel
      by_cases hlt : k < L.length
      · obtain ⟨y, hy⟩ : ∃ y, L[k]? = some y := ⟨_, List.getElem?_eq_getElem hlt⟩
        obtain ⟨g, o, rfl, hg, hc⟩ := HROW.out (by intro e; rw [List.map_eq_nil_iff] at e; rw [e] at hlt; exact absurd hlt (Nat.not_lt_zero _))
        have hcy : wr.cell? ⟨g, o + k, none⟩ = some (.string ⟨y.toArray⟩) := by
          rw [HBEL.out.cell (p := ⟨g, o + k, none⟩) hg, hc k (by rw [List.length_map]; exact hlt), List.getElem?_map, hy]; rfl
        clear hc
        have hi0 : (0 : Int) ≤ (k : Int) := by omega
        have hi1 : (k : Int) < (L.length : Int) := by omega
        have hc1 : (L.length : Int) ≤ (cn : Int) := by omega
        have hl6 : (L.length : Int) ≤ 1000000 := by omega
        have hszw : (gw (gw w p1) p2).heap.size ≤ wr.heap.size := HBEL.out.size
        have hgw : g < wr.heap.size := by omega
        have hmem : y ∈ L := List.mem_of_getElem? hy
        have hcall := rnamed_any ⟨y.toArray⟩ wr (by have := HSZ.out y hmem; show y.toArray.size ≤ 1000000; simpa using this)
        have hrv := resv_O y
        have HCALL := Lib.hid hcall; clear hcall
        have HRV := Lib.hid hrv; clear hrv
        have HY := Lib.hid hy; clear hy
        have HM := Lib.hid hmem; clear hmem
        go_wp2_with fail
        refine HCALL.out.mono ?_
        rintro e w3 ⟨v3, rfl, ⟨a3, c3, rfl, _⟩, hb3⟩
        have HB := Lib.hid (HBEL.out.trans (hb3.mono hszw)); clear hb3
        rcases hrv : resv y with _ | _
        · have htst : ¬ (0 : Int) < ((namedO ⟨y.toArray⟩).length : Int) := by have := HRV.out; rw [hrv] at this; simpa using this
          have HRY := Lib.hid hrv; clear hrv
          go_wp2_with fail
          go_roundw
          case rel => exact ⟨k + 1, by omega, by go_num, HB.out, Lib.hid (by rw [List.take_add_one, HY.out]; simp [Hno.out, HRY.out])⟩
          case measure => simp [intOf]; omega
        · have htst : (0 : Int) < ((namedO ⟨y.toArray⟩).length : Int) := by have := HRV.out; rw [hrv] at this; simpa using this
          have HRY := Lib.hid hrv; clear hrv
          go_wp2_with fail
          refine bodyPost_ret (v := .tuple #[.pointer none, .int .i64 21]) (by simp [results, Tryz.results36, go_sem]) rfl ⟨some x, HT.out, .pointer none, ?_, ?_, ?_⟩
          · rw [HRP.out, if_pos (List.any_eq_true.2 ⟨y, HM.out, HRY.out⟩)]
          · rw [HRP.out, if_pos (List.any_eq_true.2 ⟨y, HM.out, HRY.out⟩)]; rfl
          · exact Below.trans (b := gw (gw w p1) p2) (by (repeat (first | exact Below.refl _ _ | refine Below.drew ?_ | (refine below_gw' ?_ (by first | omega | (simp [go_sem]; done) | (simp [go_sem]; omega)) _) | (refine Below.alloc ?_ (by first | omega | (simp [go_sem]; done) | (simp [go_sem]; omega)) _) | (refine Below.setCell ?_ (by first | omega | (simp [go_sem]; done) | (simp [go_sem]; omega)) _)))) (HB.out.mono (by (first | omega | (simp [go_sem]; done) | (simp [go_sem]; omega))))
      · obtain rfl : k = L.length := by omega
        have hno : L.any resv = false := by have := Hno.out; rwa [List.take_length] at this
        have HNO := Lib.hid hno; clear hno
        go_wp2_with fail
        refine bodyPost_ret (v := .tuple #[.pointer (some ⟨gx, 0, none⟩), .int .i64 0]) (by simp [results, Tryz.results36, go_sem]) rfl ⟨some x, HT.out, .pointer (some ⟨gx, 0, none⟩), ?_, ?_, ?_⟩
        · rw [HRP.out, if_neg (by rw [HNO.out]; simp)]
        · rw [HRP.out, if_neg (by rw [HNO.out]; simp)]; exact NodeAt.below HOT.out (Below.trans (b := gw (gw w p1) p2) (by (repeat (first | exact Below.refl _ _ | refine Below.drew ?_ | (refine below_gw' ?_ (by first | omega | (simp [go_sem]; done) | (simp [go_sem]; omega)) _) | (refine Below.alloc ?_ (by first | omega | (simp [go_sem]; done) | (simp [go_sem]; omega)) _) | (refine Below.setCell ?_ (by first | omega | (simp [go_sem]; done) | (simp [go_sem]; omega)) _)))) (HBEL.out.mono (by (first | omega | (simp [go_sem]; done) | (simp [go_sem]; omega)))))
        · exact Below.trans (b := gw (gw w p1) p2) (by (repeat (first | exact Below.refl _ _ | refine Below.drew ?_ | (refine below_gw' ?_ (by first | omega | (simp [go_sem]; done) | (simp [go_sem]; omega)) _) | (refine Below.alloc ?_ (by first | omega | (simp [go_sem]; done) | (simp [go_sem]; omega)) _) | (refine Below.setCell ?_ (by first | omega | (simp [go_sem]; done) | (simp [go_sem]; omega)) _)))) (HBEL.out.mono (by (first | omega | (simp [go_sem]; done) | (simp [go_sem]; omega))))
end Go.Proofs.YtnjpfhihbjihbaaGreatDoor

/- Maps with string keys, as lists of pairs. -/
namespace Go.Proofs.YtnjpfhihbjihbaaGreatDoor
open Go.RowKit Go.Sort

open Go.ChangeMaps
theorem bbeq (s t : ByteArray) : (s == t) = decide (s = t) := by
  have e : (s == t) = (s.data == t.data) := by cases s; cases t; rfl
  rw [e, Bool.eq_iff_iff, beq_iff_eq, decide_eq_true_iff]
  exact ⟨fun h => ByteArray.ext h, fun h => by rw [h]⟩
theorem bb_self (s : ByteArray) : (s == s) = true := by rw [bbeq]; simp
theorem bb_ne {s t : ByteArray} (h : s ≠ t) : (s == t) = false := by rw [bbeq]; simpa using h
/-- What a list of pairs holds at a key. -/
def sget : List (ByteArray × Value) → ByteArray → Option Value
  | [], _ => none
  | x :: l, s => if s == x.1 then some x.2 else sget l s
/-- The list with a pair written. -/
def sput : List (ByteArray × Value) → ByteArray → Value → List (ByteArray × Value)
  | [], s, v => [(s, v)]
  | x :: l, s, v => if s == x.1 then (s, v) :: l else x :: sput l s v
theorem sget_sput : ∀ (l : List (ByteArray × Value)) (s t : ByteArray) (v : Value), sget (sput l s v) t = if t == s then some v else sget l t
  | [], s, t, v => by simp [sput, sget]
  | x :: l, s, t, v => by
    by_cases h : s = x.1
    · subst h
      simp only [sput, bb_self, if_true, sget]
      split <;> rfl
    · have hb : (s == x.1) = false := bb_ne h
      simp only [sput, hb, sget]
      simp only [Bool.false_eq_true, if_false, sget]
      rw [sget_sput l s t v]
      by_cases ht : t = s
      · subst ht; simp [hb, bb_self]
      · simp [bb_ne ht]
theorem sget_none : ∀ {l : List (ByteArray × Value)} {s : ByteArray}, sget l s = none → ∀ x ∈ l, x.1 ≠ s
  | [], _, _, x, hx => by cases hx
  | y :: l, s, h, x, hx => by
    simp only [sget] at h
    split at h
    · cases h
    · rename_i hne
      rcases List.mem_cons.1 hx with rfl | hx
      · intro e; exact hne (by rw [e, bb_self])
      · exact sget_none h x hx
theorem sget_mem : ∀ {l : List (ByteArray × Value)} {s : ByteArray} {v : Value}, sget l s = some v → (s, v) ∈ l
  | [], _, _, h => by cases h
  | y :: l, s, v, h => by
    simp only [sget] at h
    split at h
    · rename_i e
      rw [bbeq, decide_eq_true_eq] at e
      cases h
      rw [e]; exact List.mem_cons_self
    · exact List.mem_cons_of_mem _ (sget_mem h)
theorem sget_of_mem : ∀ {l : List (ByteArray × Value)}, (l.map Prod.fst).Nodup → ∀ {s : ByteArray} {v : Value}, (s, v) ∈ l → sget l s = some v
  | [], _, _, _, h => by cases h
  | y :: l, hn, s, v, h => by
    rw [List.map_cons, List.nodup_cons] at hn
    simp only [sget]
    rcases List.mem_cons.1 h with rfl | h
    · simp [bb_self]
    · have hne : s ≠ y.1 := fun e => hn.1 (e ▸ List.mem_map_of_mem (f := Prod.fst) h)
      simp only [bb_ne hne, Bool.false_eq_true, if_false]
      exact sget_of_mem hn.2 h
/-- An entry's key and value. -/
abbrev ekv (e : MapEntry) : Value × Value := (e.key, e.val)
theorem sput_len : ∀ (l : List (ByteArray × Value)) (s : ByteArray) (v : Value), (sput l s v).length ≤ l.length + 1
  | [], s, v => by simp [sput]
  | x :: l, s, v => by
    have := sput_len l s v
    simp only [sput]
    split <;> simp <;> omega
/-- A map with string keys in block b. -/
def SMap (w : World) (b : Nat) (l : List (ByteArray × Value)) : Prop := ∃ es c, w.heap[b]? = some (.map es c) ∧ es.toList.map ekv = l.map (fun x => (Value.string x.1, x.2)) ∧ MapKept.Stamped es c
theorem SMap.new {w : World} {b : Nat} (h : w.heap[b]? = some (.map #[] 0)) : SMap w b [] := ⟨#[], 0, h, rfl, MapKept.stamped_empty 0⟩
theorem SMap.lt {w : World} {b : Nat} {l : List (ByteArray × Value)} (h : SMap w b l) : b < w.heap.size := by
  obtain ⟨es, c, h, _, _⟩ := h; exact (Array.getElem?_eq_some_iff.1 h).1
theorem SMap.below {w w' : World} {b : Nat} {l : List (ByteArray × Value)} (h : SMap w b l) (hb : Below w.heap.size w w') : SMap w' b l := by
  have hlt := h.lt
  obtain ⟨es, c, h1, h2, h3⟩ := h
  exact ⟨es, c, by rw [hb.block b hlt]; exact h1, h2, h3⟩
theorem SMap.block {w w' : World} {b : Nat} {l : List (ByteArray × Value)} (h : SMap w b l) (hb : w'.heap[b]? = w.heap[b]?) : SMap w' b l := by
  obtain ⟨es, c, h1, h2, h3⟩ := h
  exact ⟨es, c, by rw [hb]; exact h1, h2, h3⟩
theorem SMap.nodup {w : World} {b : Nat} {l : List (ByteArray × Value)} (h : SMap w b l) : (l.map Prod.fst).Nodup := by
  obtain ⟨es, c, _, h2, h3⟩ := h
  have hk : es.toList.map (·.key) = l.map fun x => Value.string x.1 := by
    have := congrArg (List.map Prod.fst) h2
    simpa [List.map_map, Function.comp_def] using this
  have hn := h3.2.2
  rw [hk] at hn
  rw [show (l.map fun x => Value.string x.1) = (l.map Prod.fst).map Value.string by simp [List.map_map, Function.comp_def]] at hn
  exact List.Pairwise.of_map Value.string (fun a b h e => h (by rw [e])) hn
theorem SMap.gw {w : World} {b : Nat} {l : List (ByteArray × Value)} (h : SMap w b l) (p : Regrown) : SMap (gw w p) b l := h.below (below_gw w p)
theorem SMap.alloc {w : World} {b : Nat} {l : List (ByteArray × Value)} (h : SMap w b l) (o : Obj) : SMap (w.alloc o) b l := h.below ((Below.refl _ _).alloc (Nat.le_refl _) o)
theorem SMap.setCell {w : World} {b : Nat} {l : List (ByteArray × Value)} (h : SMap w b l) (g j : Nat) (v : Value) (hne : b ≠ g) : SMap (w.setCell ⟨g, j, none⟩ v) b l := h.block (Below.heap_setCell w ⟨g, j, none⟩ v b hne)
theorem sfind (s : ByteArray) : ∀ (es : List MapEntry) (l : List (ByteArray × Value)) (i : Nat), es.map ekv = l.map (fun x => (Value.string x.1, x.2)) →
    (sget l s = none → Instr.findNow .string (.string s) es i = some none ∧ ∀ v c, (es ++ [MapEntry.mk (.string s) v c]).map ekv = (sput l s v).map (fun x => (Value.string x.1, x.2))) ∧
    (∀ v, sget l s = some v → ∃ j, Instr.findNow .string (.string s) es i = some (some (i + j, v)) ∧ (es[j]?).map (·.key) = some (.string s) ∧ ∀ v', (es.modify j fun e : MapEntry => { e with key := .string s, val := v' }).map ekv = (sput l s v').map (fun x => (Value.string x.1, x.2)))
  | [], [], i, _ => ⟨fun _ => ⟨rfl, fun v c => rfl⟩, fun v h => by cases h⟩
  | [], x :: l, i, h => by simp at h
  | e :: es, [], i, h => by simp at h
  | e :: es, x :: l, i, h => by
    simp only [List.map_cons, List.cons.injEq, Prod.mk.injEq] at h
    obtain ⟨⟨h1, h2⟩, h3⟩ := h
    obtain ⟨ek, ev, eb⟩ := e
    simp only at h1 h2
    subst h1 h2
    have ih := sfind s es l (i + 1) h3
    by_cases hx : s = x.1
    · have hb : (s == x.1) = true := by rw [hx]; exact bb_self _
      refine ⟨fun h => ?_, fun v h => ⟨0, ?_, ?_, fun v' => ?_⟩⟩
      · simp [sget, hb] at h
      · simp only [sget, hb, if_true, Option.some.injEq] at h
        subst h
        simp [Instr.findNow, Instr.sameNow, hb]
      · subst hx; rfl
      · simp only [sput, hb, if_true, List.map_cons, ← h3]
        simp
    · have hb : (s == x.1) = false := bb_ne hx
      refine ⟨fun h => ?_, fun v h => ?_⟩
      · simp only [sget, hb, Bool.false_eq_true, if_false] at h
        obtain ⟨e1, e2⟩ := ih.1 h
        refine ⟨?_, fun v c => ?_⟩
        · simp only [Instr.findNow, Instr.sameNow, hb]; exact e1
        · simp only [sput, hb, Bool.false_eq_true, if_false, List.map_cons, List.cons_append, e2 v c]
      · simp only [sget, hb, Bool.false_eq_true, if_false] at h
        obtain ⟨j, e1, e2, e3⟩ := ih.2 v h
        refine ⟨j + 1, ?_, ?_, fun v' => ?_⟩
        · simp only [Instr.findNow, Instr.sameNow, hb]; rw [e1]; congr 3; omega
        · simpa using e2
        · simp only [sput, hb, Bool.false_eq_true, if_false, List.map_cons]
          rw [← e3 v']
          simp
section
variable {P : Program} {T K E : TypeId}
theorem run_sget (ht : P.underlying T = some (.map K E)) (hk : P.underlying K = some .string) {z : Value} (hz : ∀ w, (zeroValue E).run P w = .ok z w) {w : World} {b : Nat} {l : List (ByteArray × Value)} (h : SMap w b l) (s : ByteArray) (ok : Bool) :
    (Instr.lookup T (.map (some b)) (.string s) ok).run P w = .ok (if ok then .tuple #[(sget l s).getD z, .bool (sget l s).isSome] else (sget l s).getD z) w := by
  obtain ⟨es, c, hb, he, hst⟩ := h
  have hkey : ∀ em, (Instr.checkKey em 10000 K (.string s)).run P w = .ok () w := fun em => MapKept.run_checkKey (k := .string s) hk (by simp [MapKept.IsKey]) em 9999
  have hf := sfind s es.toList l 0 he
  rcases hg : sget l s with _ | v
  · have hfind : (Instr.findKey K (.string s) es.toList).run P w = .ok none w := by simp [Instr.findKey, run_underlying hk, (hf.1 hg).1]
    cases ok <;> simp [Instr.lookup, run_underlying ht, MapKept.run_getObj_map hb, hkey, hfind, Result.andThen, hz]
  · obtain ⟨j, e1, _⟩ := hf.2 v hg
    have hfind : (Instr.findKey K (.string s) es.toList).run P w = .ok (some (0 + j, v)) w := by simp only [Instr.findKey]; simp [run_underlying hk, e1]
    cases ok <;> simp [Instr.lookup, run_underlying ht, MapKept.run_getObj_map hb, hkey, hfind, Result.andThen]
theorem run_snil (ht : P.underlying T = some (.map K E)) (hk : P.underlying K = some .string) {z : Value} (hz : ∀ w, (zeroValue E).run P w = .ok z w) (w : World) (s : ByteArray) (ok : Bool) :
    (Instr.lookup T (.map none) (.string s) ok).run P w = .ok (if ok then .tuple #[z, .bool false] else z) w := by
  have hkey : ∀ em, (Instr.checkKey em 10000 K (.string s)).run P w = .ok () w := fun em => MapKept.run_checkKey (k := .string s) hk (by simp [MapKept.IsKey]) em 9999
  have hfind : (Instr.findKey K (.string s) []).run P w = .ok none w := by simp [Instr.findKey, run_underlying hk, Instr.findNow]
  cases ok <;> simp [Instr.lookup, run_underlying ht, hkey, hfind, Result.andThen, hz]
theorem run_sput (ht : P.underlying T = some (.map K E)) (hk : P.underlying K = some .string) {w : World} {b : Nat} {l : List (ByteArray × Value)} (h : SMap w b l) (s : ByteArray) (v : Value) :
    ∃ o, (Instr.mapUpdate T (.map (some b)) (.string s) v).run P w = .ok () (setBlock w b o) ∧ SMap (setBlock w b o) b (sput l s v) := by
  have hlt := h.lt
  obtain ⟨es, c, hb, he, hst⟩ := h
  have hkey : ∀ em, (Instr.checkKey em 10000 K (.string s)).run P w = .ok () w := fun em => MapKept.run_checkKey (k := .string s) hk (by simp [MapKept.IsKey]) em 9999
  have hf := sfind s es.toList l 0 he
  rcases hg : sget l s with _ | u
  · have hfind : (Instr.findKey K (.string s) es.toList).run P w = .ok none w := by simp [Instr.findKey, run_underlying hk, (hf.1 hg).1]
    have hne : ∀ x ∈ es.toList, x.key ≠ .string s := fun x hx e => by
      have h1 : (x.key, x.val) ∈ es.toList.map ekv := List.mem_map_of_mem (f := ekv) hx
      rw [he] at h1
      obtain ⟨y, hy, e2⟩ := List.mem_map.1 h1
      simp only [Prod.mk.injEq] at e2
      rw [← e2.1] at e
      cases e
      exact sget_none hg y hy rfl
    refine ⟨.map (es.push ⟨.string s, v, c⟩) (c + 1), ?_, _, _, setBlock_at _ _ _ hlt, ?_, MapKept.stamped_push hst hne⟩
    · simp [Instr.mapUpdate, run_underlying ht, MapKept.run_getObj_map hb, hkey, hfind, MapKept.run_setObj_map _ hb, Result.andThen]
      rfl
    · rw [Array.toList_push]; exact (hf.1 hg).2 v c
  · obtain ⟨j, e1, e2, e3⟩ := hf.2 u hg
    rw [Nat.zero_add] at e1
    have hfind : (Instr.findKey K (.string s) es.toList).run P w = .ok (some (j, u)) w := by simp only [Instr.findKey]; simp [run_underlying hk, e1]
    refine ⟨.map (es.modify j fun e : MapEntry => { e with key := .string s, val := v }) c, ?_, _, _, setBlock_at _ _ _ hlt, ?_, MapKept.stamped_modify hst j _ (fun _ _ => rfl) (fun e _ hej => by rw [Array.getElem?_toList] at e2; rw [hej] at e2; simp only [Option.map_some, Option.some.injEq] at e2; exact e2.symm)⟩
    · have hes : (es[j]?).map (·.key) = some (.string s) := by rw [← e2]; simp
      have hsta : (Instr.keyThatStays (((es[j]?).map (·.key)).getD (.string s)) (.string s)).run P w = .ok (.string s) w := by
        rw [hes]
        simp [Instr.keyThatStays, Instr.sameBits, bb_self]
      simp [Instr.mapUpdate, run_underlying ht, MapKept.run_getObj_map hb, hkey, hfind, hsta, MapKept.run_setObj_map _ hb, Result.andThen]
      rfl
    · rw [← e3 v]; simp
end
end Go.Proofs.YtnjpfhihbjihbaaGreatDoor

/- Values in the range, in the reference. -/
namespace Go.Proofs.YtnjpfhihbjihbaaGreatDoor
open Go.RowKit Go.Sort

/-- A number that is in the range, and the code. -/
def rangedP (n : Int) : Int × Int := if n < -2147483648 ∨ 2147483647 < n then (0, 2) else (n, 0)
set_option maxHeartbeats 400000 in
theorem rranged_any (n : Int) (w : World) :
    Calls Tryz.prog 41 #[.int .i64 n] w fun e w' => e = .returned (.tuple #[.int .i64 (rangedP n).1, .int .i64 (rangedP n).2]) ∧ w = w' := by
  by_cases h1 : n < -2147483648
  · have hr : rangedP n = (0, 2) := by unfold rangedP; rw [if_pos (.inl h1)]
    rw [hr]
    go_enter Tryz.func41, Tryz.ntmps41
    go_wp2_with fail
    exact bodyPost_ret (v := .tuple #[.int .i64 0, .int .i64 2]) (by simp [results, Tryz.results41, go_sem]) rfl ⟨rfl, rfl⟩
  · by_cases h2 : 2147483647 < n
    · have hr : rangedP n = (0, 2) := by unfold rangedP; rw [if_pos (.inr h2)]
      rw [hr]
      go_enter Tryz.func41, Tryz.ntmps41
      go_wp2_with fail
      exact bodyPost_ret (v := .tuple #[.int .i64 0, .int .i64 2]) (by simp [results, Tryz.results41, go_sem]) rfl ⟨rfl, rfl⟩
    · have hr : rangedP n = (n, 0) := by unfold rangedP; rw [if_neg (by omega)]
      rw [hr]
      go_enter Tryz.func41, Tryz.ntmps41
      go_wp2_with fail
      exact bodyPost_ret (v := .tuple #[.int .i64 n, .int .i64 0]) (by simp [results, Tryz.results41, go_sem]) rfl ⟨rfl, rfl⟩
end Go.Proofs.YtnjpfhihbjihbaaGreatDoor

/- What the binary operators give. No program in sight. -/
namespace Go.Proofs.YtnjpfhihbjihbaaGreatDoor
open Go.RowKit Go.Sort

/-- What the i-th operator's function gives. -/
def opFun : Nat → Int → Int → Int
  | 0, a, b => bits .or .i64 a b
  | 1, a, b => bits .xor .i64 a b
  | 2, a, b => bits .and .i64 a b
  | 3, a, b => a * 2 ^ b.toNat
  | 4, a, b => a / 2 ^ b.toNat
  | 5, a, b => a + b
  | 6, a, b => a - b
  | 7, a, b => a * b
  | 8, a, b => a.tdiv b
  | _, a, b => a.tmod b
/-- What the i-th operator gives: the value and the code. -/
def opRaw (i : Nat) (a b : Int) : Int × Int :=
  if (i = 3 ∨ i = 4) ∧ (b < 0 ∨ 31 < b) then (0, 2) else if (i = 8 ∨ i = 9) ∧ b = 0 then (0, 18) else (opFun i a b, 0)
def rangedC (x : Int × Int) : Int × Int := if x.2 = 0 then rangedP x.1 else x
/-- What a binary operator gives: the value and the code. -/
def opEval (op : ByteArray) (a b : Int) : Int × Int := match opIdx op with | some i => rangedC (opRaw i a b) | none => (0, 0)
/-- What a unary operator gives. -/
def unEval (op : ByteArray) (a : Int) : Int := if op.toList = [45] then -a else if op.toList = [126] then -a - 1 else a
theorem pow31 (b : Int) (h0 : 0 ≤ b) (h1 : b ≤ 31) : (1 : Int) ≤ 2 ^ b.toNat ∧ (2 : Int) ^ b.toNat ≤ 2147483648 := by
  have h : (2 : Nat) ^ b.toNat ≤ 2 ^ 31 := Nat.pow_le_pow_right (by omega) (by omega)
  have h2 : 1 ≤ (2 : Nat) ^ b.toNat := Nat.one_le_two_pow
  have e : ((2 : Nat) ^ b.toNat : Nat) = ((2 : Int) ^ b.toNat) := by simp
  omega
theorem mul_in {a p : Int} (h1 : -2147483648 ≤ a) (h2 : a ≤ 2147483647) (h3 : -2147483648 ≤ p) (h4 : p ≤ 2147483648) : -4611686018427387904 ≤ a * p ∧ a * p ≤ 4611686018427387904 := by
  have h : (a * p).natAbs ≤ 2147483648 * 2147483648 := by rw [Int.natAbs_mul]; exact Nat.mul_le_mul (by omega) (by omega)
  omega
theorem tdiv_in {a b : Int} (h1 : -2147483648 ≤ a) (h2 : a ≤ 2147483647) : -2147483648 ≤ a.tdiv b ∧ a.tdiv b ≤ 2147483648 := by
  have h : (a.tdiv b).natAbs ≤ a.natAbs := by rw [Int.natAbs_tdiv]; exact Nat.div_le_self _ _
  omega
/-- Every bit turned. -/
theorem xor_m1 (x : Int) (h1 : -2147483648 ≤ x) (h2 : x ≤ 2147483647) : bits .xor .i64 (-1) x = -x - 1 := by
  unfold bits
  have e : BitVec.ofInt IntKind.i64.bits (-1) ^^^ BitVec.ofInt IntKind.i64.bits x = ~~~ BitVec.ofInt IntKind.i64.bits x := by
    show BitVec.ofInt 64 (-1) ^^^ BitVec.ofInt 64 x = ~~~ BitVec.ofInt 64 x
    rw [show BitVec.ofInt 64 (-1) = BitVec.allOnes 64 from rfl, BitVec.allOnes_xor]
  simp only [e]
  have e2 : (~~~ BitVec.ofInt IntKind.i64.bits x).toNat = 2 ^ 64 - 1 - (x % ((2 : Nat) ^ 64 : Nat)).toNat := by
    show (~~~ BitVec.ofInt 64 x).toNat = _
    rw [BitVec.toNat_not, BitVec.toNat_ofInt]
  rw [e2]
  rw [IntKind.wrap_i64]
  omega
end Go.Proofs.YtnjpfhihbjihbaaGreatDoor

/- Expressions: their values; what the parser's results satisfy. No program in sight. -/
namespace Go.Proofs.YtnjpfhihbjihbaaGreatDoor
open Go.RowKit Go.Sort

/-- The value of an expression and the code. -/
def Ex.eval (env : ByteArray → Option Int) (here : Int) : Ex → Int × Int
  | .num n => (n, 0)
  | .sym s => match env s with | some n => (n, 0) | none => (0, 13)
  | .here => (here, 0)
  | .un op a => if (a.eval env here).2 = 0 then rangedP (unEval op (a.eval env here).1) else (0, (a.eval env here).2)
  | .bin op a b => if (a.eval env here).2 = 0 then (if (b.eval env here).2 = 0 then opEval op (a.eval env here).1 (b.eval env here).1 else (0, (b.eval env here).2)) else (0, (a.eval env here).2)
/-- The operators of an expression are operators, its numbers are in the range. -/
def Ex.good : Ex → Prop
  | .num n => 0 ≤ n ∧ n ≤ 65535
  | .sym s => s.size ≤ 1000000
  | .here => True
  | .un op a => (op.toList = [45] ∨ op.toList = [43] ∨ op.toList = [126]) ∧ a.good
  | .bin op a b => lvlS op ≠ 0 ∧ a.good ∧ b.good
/-- Tokens with numbers in the range, and short. -/
def TokOk (l : List Tok) : Prop := ∀ t ∈ l, t.text.size ≤ 1000000 ∧ 0 ≤ t.n ∧ t.n ≤ 65535
theorem TokOk.small {l : List Tok} (h : TokOk l) : Small l := fun t ht => (h t ht).1
theorem TokOk.cons {t : Tok} {l : List Tok} (h : TokOk (t :: l)) : (t.text.size ≤ 1000000 ∧ 0 ≤ t.n ∧ t.n ≤ 65535) ∧ TokOk l := ⟨h t List.mem_cons_self, fun x hx => h x (List.mem_cons_of_mem _ hx)⟩
def stG : St Tok Ex → Prop | .U l => TokOk l | .B _ l => TokOk l | .L _ a l => a.good ∧ TokOk l
theorem atom_good {t : Tok} {e : Ex} (hs : t.text.size ≤ 1000000 ∧ 0 ≤ t.n ∧ t.n ≤ 65535) (h : tatom t = some e) : e.good := by
  unfold tatom at h
  repeat' split at h
  all_goals (first | cases h | skip)
  · trivial
  · exact hs.1
  · exact hs.2
  · have := (t.text.toList.headD 0).toNat_lt
    refine ⟨by omega, by omega⟩
theorem P.good {s : St Tok Ex} {res : Option (Ex × List Tok)} (h : P exLang s res) : stG s → ∀ x r, res = some (x, r) → x.good ∧ TokOk r := by
  induction h with
  | binN lv l h ih => intro _ x r e; cases e
  | bin lv l r a res h1 h2 ih1 ih2 => intro hs x r' e; exact ih2 (ih1 hs a r rfl) x r' e
  | stop lv a r h => intro hs x r' e; cases e; exact hs
  | step lv a b t r r' res h0 h1 h2 h3 ih1 ih2 =>
    intro hs x r2 e
    have a1 := ih1 hs.2.cons.2 b r' rfl
    exact ih2 ⟨⟨h0, hs.1, a1.1⟩, a1.2⟩ x r2 e
  | stepN lv a t r h0 h1 h2 ih => intro _ x r e; cases e
  | nil => intro _ x r e; cases e
  | un t l res h0 h1 ih =>
    intro hs x r e
    rcases res with _ | ⟨y, r'⟩
    · cases e
    · cases e
      have := ih (TokOk.cons hs).2 y r' rfl
      refine ⟨⟨?_, this.1⟩, this.2⟩
      have hu : tU t = true := h0
      simpa [tU, or_assoc] using hu
  | par t t' l r e h0 h1 h2 h3 ih =>
    intro hs x r2 he
    cases he
    have := ih (TokOk.cons hs).2 e (t' :: r) rfl
    exact ⟨this.1, this.2.cons.2⟩
  | parN t l res h0 h1 h2 h3 ih => intro _ x r e; cases e
  | atom t l h0 h1 =>
    intro hs x r e
    have he : (tatom t).map (fun e => (e, l)) = some (x, r) := e
    rcases ht : tatom t with _ | y
    · rw [ht] at he; cases he
    · rw [ht] at he
      cases he
      exact ⟨atom_good (TokOk.cons hs).1 ht, (TokOk.cons hs).2⟩

theorem rangedP_in (n : Int) : -2147483648 ≤ (rangedP n).1 ∧ (rangedP n).1 ≤ 2147483647 := by
  unfold rangedP
  split
  · decide
  · dsimp only; omega
theorem opRaw_code (i : Nat) (a b : Int) : (opRaw i a b).2 = 0 ∨ (opRaw i a b).1 = 0 := by
  unfold opRaw
  repeat' split
  all_goals first | exact .inl rfl | exact .inr rfl
theorem opEval_in (op : ByteArray) (a b : Int) : -2147483648 ≤ (opEval op a b).1 ∧ (opEval op a b).1 ≤ 2147483647 := by
  unfold opEval
  split
  · rename_i i h
    unfold rangedC
    split
    · exact rangedP_in _
    · rename_i hc
      have := (opRaw_code i a b).resolve_left hc
      omega
  · decide
theorem eval_in (env : ByteArray → Option Int) (here : Int) (he : ∀ s n, env s = some n → -2147483648 ≤ n ∧ n ≤ 2147483647) (hh : -2147483648 ≤ here ∧ here ≤ 2147483647) : ∀ x : Ex, x.good → -2147483648 ≤ (x.eval env here).1 ∧ (x.eval env here).1 ≤ 2147483647
  | .num n, h => by have h : 0 ≤ n ∧ n ≤ 65535 := h; show -2147483648 ≤ n ∧ n ≤ 2147483647; omega
  | .sym s, _ => by
    unfold Ex.eval
    split
    · exact he _ _ ‹_›
    · dsimp only; omega
  | .here, _ => hh
  | .un op a, h => by
    unfold Ex.eval
    split
    · exact rangedP_in _
    · dsimp only; omega
  | .bin op a b, h => by
    unfold Ex.eval
    repeat' split
    all_goals first | exact opEval_in _ _ _ | (dsimp only; omega)
end Go.Proofs.YtnjpfhihbjihbaaGreatDoor
