/- Joined texts: BuildL, Same20, Fmt16. -/
import Derived.Test.YtnjpfhihbjihbaaGreatDoorS01
import Derived.Test.YtnjpfhihbjihbaaGreatDoorS36
import Derived.Laws.IdiomStrings
import Derived.Maps.OwnSet
/- The law's own function: build. -/
namespace Go.Proofs.YtnjpfhihbjihbaaGreatDoor
open Go.RowKit Go.Sort

open Go.ChangeMaps
/-- Both tables in memory. -/
def Tabs20 (w : World) (g b : Nat) (rv : Value) (L : List Sy) : Prop := ∃ M R, TabIn w g b M ∧ M.map Prod.fst = L.map Sy.norm ∧ RTab w rv R ∧ R.map Prod.fst = L ∧ (R = [] → rv = .slice none 0 0)
theorem Tabs20.below {w w' : World} {g b : Nat} {rv : Value} {L : List Sy} (h : Tabs20 w g b rv L) (hb : Below w.heap.size w w') : Tabs20 w' g b rv L := by
  obtain ⟨M, R, h1, h2, h3, h4⟩ := h
  exact ⟨M, R, h1.below hb, h2, h3.below hb, h4⟩
/-- What build leaves. -/
def BuildRes (l : List Dfn) (w : World) (e : Ending) (w' : World) : Prop :=
  Below w.heap.size w w' ∧ (tableD l = none ∧ e = .returned (.tuple #[.pointer none, .slice none 0 0, .bool true]) ∨ ∃ L g b rv, tableD l = some L ∧ e = .returned (.tuple #[.pointer (some ⟨g, 0, none⟩), rv, .bool true]) ∧ Tabs20 w' g b rv L ∧ w.heap.size ≤ b)
theorem tableD_bad {l : List Dfn} {L : List Sy} {k : Nat} {d : Dfn} (h : foldD [] (l.take k) = some L) (hd : l[k]? = some d) (hs : symD d = none) : tableD l = none := by
  unfold tableD
  split
  · rfl
  · have h1 : foldD [] (l.take (k + 1)) = none := by
      rw [List.take_add_one, hd]
      show foldD [] (l.take k ++ [d]) = none
      rw [foldD_snoc, h]
      show stepD L d = none
      unfold stepD; rw [hs]; rfl
    have := foldD_none [] (l.take (k + 1)) (l.drop (k + 1)) h1
    rw [List.take_append_drop] at this
    exact this
theorem foldD_next {l : List Dfn} {L : List Sy} {k : Nat} {d : Dfn} {s : Sy} (h : foldD [] (l.take k) = some L) (hd : l[k]? = some d) (hs : symD d = some s) : foldD [] (l.take (k + 1)) = some (if (sfindS L s.name).isSome then L else L ++ [s]) := by
  rw [List.take_add_one, hd]
  show foldD [] (l.take k ++ [d]) = _
  rw [foldD_snoc, h]
  show stepD L d = _
  unfold stepD; rw [hs]; rfl
/-- What holds at the head of build's loop. -/
def BldLoop (l : List Dfn) (g b : Nat) (w : World) (k : Nat) (rv : Value) (wr : World) : Prop := ∃ L, foldD [] (l.take k) = some L ∧ Tabs20 wr g b rv L ∧ Below w.heap.size w wr
set_option maxHeartbeats 4000000 in
set_option maxRecDepth 100000 in
theorem build_any (l : List Dfn) (v : Value) (w : World) (hr : Row w v l.length (l.flatMap dfnc)) (hl : l.length ≤ maxLen) (hsz : ∀ d ∈ l, d.name.size ≤ maxLen ∧ d.text.size ≤ maxLen) :
    Calls Tryz.prog 9 #[v] w (BuildRes l w) := by
  unfold maxLen at hl
  obtain ⟨a, cap, rfl, hcap, hc⟩ := hr.structs dfnc 5 (fun _ => rfl) (by decide)
  have hc1 : (l.length : Int) ≤ (cap : Int) := by omega
  have hc2 : (l.length : Int) ≤ 9223372036854775807 := by omega
  have HC := Lib.hid hc; clear hc hr
  have HSZ := Lib.hid hsz; clear hsz
  by_cases h20 : 20 < l.length
  · have hT : tableD l = none := by unfold tableD; rw [if_pos h20]
    have HT := Lib.hid hT; clear hT
    have h20' : (20 : Int) < (l.length : Int) := by omega
    go_enter Tryz.func9, Tryz.ntmps9
    go_wp2_with fail
    (with_reducible refine (new_any _).mono ?_)
    rintro e w1 ⟨g, b, rfl, htab, hgb, hb1⟩
    have HB1 := Lib.hid hb1
    clear htab hgb hb1
    go_wp2_with fail
    exact bodyPost_ret (v := .tuple #[.pointer none, .slice none 0 0, .bool true]) (by simp [results, Tryz.results9, go_sem]) rfl ⟨HB1.out, .inl ⟨HT.out, rfl⟩⟩
  · have hT : tableD l = foldD [] l := by unfold tableD; rw [if_neg h20]
    have HT := Lib.hid hT; clear hT
    have h20' : ¬ (20 : Int) < (l.length : Int) := by omega
    go_enter Tryz.func9, Tryz.ntmps9
    go_wp2_with fail
    (with_reducible refine (new_any _).mono ?_)
    rintro e w1 ⟨g, b, rfl, htab, hgb, hb1⟩
    have HB1 := Lib.hid hb1
    have HTAB := Lib.hid htab
    have HGB := Lib.hid hgb
    clear htab hgb hb1
    go_wp2_with fail
    go_loopw [6, 25] (fun u i wr => ∃ k : Nat, k ≤ l.length ∧ i = .int .i64 k ∧ BldLoop l g b w k u wr) (fun _ i _ => l.length - (intOf i).toNat)
    case atStart => exact ⟨0, Nat.zero_le _, rfl, [], rfl, ⟨[], [], HTAB.out, rfl, ⟨⟨0, World.ownsRow_nil _ _ _ _⟩, fun x hx => by cases hx⟩, rfl, fun _ => rfl⟩, HB1.out⟩
    case round =>
      obtain ⟨k, hk, rfl, L, hfold, htabs, hbel⟩ := hrel
      have HF := Lib.hid hfold
      have HTB := Lib.hid htabs
      have HBEL := Lib.hid hbel
      have hszr : w.heap.size ≤ wr.heap.size := hbel.size
      clear hfold htabs hbel HB1 HTAB
      by_cases hlt : k < l.length
      · obtain ⟨d, hd⟩ : ∃ d, l[k]? = some d := ⟨_, List.getElem?_eq_getElem hlt⟩
        obtain ⟨gr, o, rfl, hgr, hcs⟩ := HC.out (by rintro rfl; simp at hd)
        have f0 : wr.cell? ⟨gr, o + k * 5, none⟩ = some (.string d.name) := (HBEL.out.cell (p := ⟨gr, o + k * 5, none⟩) hgr).trans (hcs k d hd 0 (by decide))
        have f1 : wr.cell? ⟨gr, o + k * 5 + 1, none⟩ = some (.int .i64 d.n) := (HBEL.out.cell (p := ⟨gr, o + k * 5 + 1, none⟩) hgr).trans (hcs k d hd 1 (by decide))
        have f2 : wr.cell? ⟨gr, o + k * 5 + 2, none⟩ = some (.string d.text) := (HBEL.out.cell (p := ⟨gr, o + k * 5 + 2, none⟩) hgr).trans (hcs k d hd 2 (by decide))
        have f3 : wr.cell? ⟨gr, o + k * 5 + 3, none⟩ = some (.int .i64 d.here) := (HBEL.out.cell (p := ⟨gr, o + k * 5 + 3, none⟩) hgr).trans (hcs k d hd 3 (by decide))
        have f4 : wr.cell? ⟨gr, o + k * 5 + 4, none⟩ = some (.int .i64 d.line) := (HBEL.out.cell (p := ⟨gr, o + k * 5 + 4, none⟩) hgr).trans (hcs k d hd 4 (by decide))
        have hi0 : (0 : Int) ≤ (k : Int) := by omega
        have hi1 : (k : Int) < (l.length : Int) := by omega
        have hds := HSZ.out d (List.mem_of_getElem? hd)
        have hsy := fun w => symbol20_any d w hds.1 hds.2
        unfold SymRes dfnV at hsy
        rcases hs : symD d with _ | s
        · have hbad := tableD_bad HF.out hd hs
          rw [hs] at hsy
          have HBAD := Lib.hid hbad
          have HSY := Lib.hid hsy
          clear hbad hsy hs hd hds hcs
          go_wp2_with fail
          (with_reducible refine (HSY.out _).mono ?_)
          rintro e w2 ⟨p, rfl, _, hb2⟩
          obtain ⟨p2, rfl⟩ := gw_of_below hb2
          clear hb2
          go_wp2_with fail
          exact bodyPost_ret (v := .tuple #[.pointer none, .slice none 0 0, .bool true]) (by simp [results, Tryz.results9, go_sem]) rfl ⟨HBEL.out.trans (Below.mono (show Below wr.heap.size wr _ by (repeat (first | exact Below.refl _ _ | refine Below.drew ?_ | (refine below_gw' ?_ (by first | omega | (simp [go_sem]; done) | (simp [go_sem]; omega)) _) | (refine Below.alloc ?_ (by first | omega | (simp [go_sem]; done) | (simp [go_sem]; omega)) _) | (refine Below.setCell ?_ (by first | omega | (simp [go_sem]; done) | (simp [go_sem]; omega)) _)))) hszr), .inl ⟨HBAD.out, rfl⟩⟩
        · obtain ⟨ex, rfl⟩ := symD_form hs
          have hnext := foldD_next HF.out hd hs
          have hdl := fun M w hT => defineL_any g b M d ⟨d.name, d.n, ex, d.here, d.line⟩ w hT hs
          rw [hs] at hsy
          have HNX := Lib.hid hnext
          have HDL := Lib.hid hdl
          have HSY := Lib.hid hsy
          have HTK := Lib.hid (TabOk.fold (l.take k) [] L .nil HF.out)
          unfold dfnV at HDL
          clear hnext hdl hsy hs hd hds hcs
          obtain ⟨name, n, text, here, line⟩ := d
          dsimp only at *
          obtain ⟨M, R, hTI, hM, hRT, hR0, hnil⟩ := HTB.out
          have HTI := Lib.hid hTI
          have HRT := Lib.hid hRT
          have hlenR : R.length ≤ 1000 := by
            have h1 := HTK.out.2
            rw [← hR0, List.length_map] at h1
            simp only [List.length_nil, Nat.zero_add, List.length_take] at h1
            omega
          have hMn : sfindS (M.map Prod.fst) (Sy.norm ⟨name, n, ex, here, line⟩).name = (sfindS L name).map Sy.norm := by rw [hM, norm_name, norm_find]
          clear hTI hRT HTB
          go_wp2_with fail
          (with_reducible refine (HSY.out _).mono ?_)
          rintro e w2 ⟨p, rfl, ho2, hb2⟩
          obtain ⟨p2, rfl⟩ := gw_of_below hb2
          have HO2 := Lib.hid (ho2 _ rfl)
          clear hb2 ho2
          rcases hex : (sfindS L name).isSome with _ | _
          · have HNX2 : Hid (foldD [] (l.take (k + 1)) = some (L ++ [⟨name, n, ex, here, line⟩])) := Lib.hid (by have := HNX.out; rw [hex] at this; simpa using this)
            have hrd := fun (w : World) (hR : RTab w u6 R) (hx : OptAt 89 w ex (.pointer p)) => (rdefine_any R (⟨name, n, ex, here, line⟩, .pointer p) u6 w hR hnil (by omega) hx).mono fun e w' h => (show ∃ v, e = .returned (.tuple #[v, .int .i64 0]) ∧ RTab w' v (R ++ [(⟨name, n, ex, here, line⟩, .pointer p)]) ∧ Below w.heap.size w w' by
              obtain ⟨hb, v, h | h⟩ := h
              · have h1 := h.1; rw [hR0] at h1; rw [hex] at h1; cases h1
              · exact ⟨v, h.2.1, h.2.2, hb⟩)
            have hdf := fun (w : World) (hT : TabIn w g b M) => (HDL.out M w hT).mono fun e w' h => (show ∃ v, e = .returned (.int .i64 0) ∧ TabIn w' g b (M ++ [(Sy.norm ⟨name, n, ex, here, line⟩, v)]) ∧ Kb b w w' by
              obtain ⟨v, hk, h | h⟩ := h
              · have h1 := h.1; rw [hMn, Option.isSome_map, hex] at h1; cases h1
              · exact ⟨v, h.2.1, h.2.2, hk⟩)
            have HRD := Lib.hid hrd
            have HDF := Lib.hid hdf
            clear hrd hdf hex hnil HNX HDL hMn
            have HR0 := Lib.hid hR0; clear hR0
            have HM := Lib.hid hM; clear hM
            go_wp2_with fail
            (with_reducible refine (HRD.out _ (HRT.out.below (by (repeat (first | exact Below.refl _ _ | refine Below.drew ?_ | (refine below_gw' ?_ (by first | omega | (simp [go_sem]; done) | (simp [go_sem]; omega)) _) | (refine Below.alloc ?_ (by first | omega | (simp [go_sem]; done) | (simp [go_sem]; omega)) _) | (refine Below.setCell ?_ (by first | omega | (simp [go_sem]; done) | (simp [go_sem]; omega)) _))))) (OptAt.below HO2.out (by (repeat (first | exact Below.refl _ _ | refine Below.drew ?_ | (refine below_gw' ?_ (by first | omega | (simp [go_sem]; done) | (simp [go_sem]; omega)) _) | (refine Below.alloc ?_ (by first | omega | (simp [go_sem]; done) | (simp [go_sem]; omega)) _) | (refine Below.setCell ?_ (by first | omega | (simp [go_sem]; done) | (simp [go_sem]; omega)) _)))))).mono ?_)
            rintro e w3 ⟨v3, rfl, hrt3, hb3⟩
            obtain ⟨p3, rfl⟩ := gw_of_below hb3
            clear hb3
            have HRT3 := Lib.hid hrt3; clear hrt3
            go_wp2_with fail
            (with_reducible refine (HDF.out _ (HTI.out.below (by (repeat (first | exact Below.refl _ _ | refine Below.drew ?_ | (refine below_gw' ?_ (by first | omega | (simp [go_sem]; done) | (simp [go_sem]; omega)) _) | (refine Below.alloc ?_ (by first | omega | (simp [go_sem]; done) | (simp [go_sem]; omega)) _) | (refine Below.setCell ?_ (by first | omega | (simp [go_sem]; done) | (simp [go_sem]; omega)) _)))))).mono ?_)
            rintro e w4 ⟨v4, rfl, htab4, hk4⟩
            have HK4 := Lib.hid hk4
            have HT4 := Lib.hid htab4
            have HL : Hid (BldLoop l g b w (k + 1) v3 w4) := Lib.hid ⟨_, HNX2.out, ⟨_, _, HT4.out, by rw [List.map_append, List.map_append, HM.out]; rfl, HRT3.out.ck (Ck.of_kb hk4 (HTI.out.below (by (repeat (first | exact Below.refl _ _ | refine Below.drew ?_ | (refine below_gw' ?_ (by first | omega | (simp [go_sem]; done) | (simp [go_sem]; omega)) _) | (refine Below.alloc ?_ (by first | omega | (simp [go_sem]; done) | (simp [go_sem]; omega)) _) | (refine Below.setCell ?_ (by first | omega | (simp [go_sem]; done) | (simp [go_sem]; omega)) _))))).map), by rw [List.map_append, HR0.out]; rfl, fun h => by simp at h⟩, (HBEL.out.trans (Below.mono (show Below wr.heap.size wr _ by (repeat (first | exact Below.refl _ _ | refine Below.drew ?_ | (refine below_gw' ?_ (by first | omega | (simp [go_sem]; done) | (simp [go_sem]; omega)) _) | (refine Below.alloc ?_ (by first | omega | (simp [go_sem]; done) | (simp [go_sem]; omega)) _) | (refine Below.setCell ?_ (by first | omega | (simp [go_sem]; done) | (simp [go_sem]; omega)) _)))) hszr)).trans (hk4.low HGB.out (Nat.le_trans hszr (Below.size (show Below wr.heap.size wr _ by (repeat (first | exact Below.refl _ _ | refine Below.drew ?_ | (refine below_gw' ?_ (by first | omega | (simp [go_sem]; done) | (simp [go_sem]; omega)) _) | (refine Below.alloc ?_ (by first | omega | (simp [go_sem]; done) | (simp [go_sem]; omega)) _) | (refine Below.setCell ?_ (by first | omega | (simp [go_sem]; done) | (simp [go_sem]; omega)) _)))))))⟩
            clear hk4 htab4
            go_wp2_with fail
            go_roundw
            case rel => exact ⟨k + 1, by omega, by go_num, HL.out⟩
            case measure => simp [intOf]; omega
          · have HNX2 : Hid (foldD [] (l.take (k + 1)) = some L) := Lib.hid (by have := HNX.out; rw [hex] at this; simpa using this)
            have hrd := fun (w : World) (hR : RTab w u6 R) (hx : OptAt 89 w ex (.pointer p)) => (rdefine_any R (⟨name, n, ex, here, line⟩, .pointer p) u6 w hR hnil (by omega) hx).mono fun e w' h => (show ∃ v, e = .returned (.tuple #[v, .int .i64 14]) ∧ RTab w' v R ∧ Below w.heap.size w w' by
              obtain ⟨hb, v, h | h⟩ := h
              · exact ⟨v, h.2.1, h.2.2, hb⟩
              · have h1 := h.1; rw [hR0] at h1; rw [hex] at h1; cases h1)
            have hdf := fun (w : World) (hT : TabIn w g b M) => (HDL.out M w hT).mono fun e w' h => (show ∃ v, e = .returned (.int .i64 14) ∧ TabIn w' g b M ∧ Kb b w w' by
              obtain ⟨v, hk, h | h⟩ := h
              · exact ⟨v, h.2.1, h.2.2, hk⟩
              · have h1 := h.1; rw [hMn, Option.isSome_map, hex] at h1; cases h1)
            have HNE : Hid (R ≠ []) := Lib.hid (by rintro rfl; rw [← hR0] at hex; simp [sfindS] at hex)
            have HRD := Lib.hid hrd
            have HDF := Lib.hid hdf
            clear hrd hdf hex hnil HNX HDL hMn
            have HR0 := Lib.hid hR0; clear hR0
            have HM := Lib.hid hM; clear hM
            go_wp2_with fail
            (with_reducible refine (HRD.out _ (HRT.out.below (by (repeat (first | exact Below.refl _ _ | refine Below.drew ?_ | (refine below_gw' ?_ (by first | omega | (simp [go_sem]; done) | (simp [go_sem]; omega)) _) | (refine Below.alloc ?_ (by first | omega | (simp [go_sem]; done) | (simp [go_sem]; omega)) _) | (refine Below.setCell ?_ (by first | omega | (simp [go_sem]; done) | (simp [go_sem]; omega)) _))))) (OptAt.below HO2.out (by (repeat (first | exact Below.refl _ _ | refine Below.drew ?_ | (refine below_gw' ?_ (by first | omega | (simp [go_sem]; done) | (simp [go_sem]; omega)) _) | (refine Below.alloc ?_ (by first | omega | (simp [go_sem]; done) | (simp [go_sem]; omega)) _) | (refine Below.setCell ?_ (by first | omega | (simp [go_sem]; done) | (simp [go_sem]; omega)) _)))))).mono ?_)
            rintro e w3 ⟨v3, rfl, hrt3, hb3⟩
            obtain ⟨p3, rfl⟩ := gw_of_below hb3
            clear hb3
            have HRT3 := Lib.hid hrt3; clear hrt3
            go_wp2_with fail
            (with_reducible refine (HDF.out _ (HTI.out.below (by (repeat (first | exact Below.refl _ _ | refine Below.drew ?_ | (refine below_gw' ?_ (by first | omega | (simp [go_sem]; done) | (simp [go_sem]; omega)) _) | (refine Below.alloc ?_ (by first | omega | (simp [go_sem]; done) | (simp [go_sem]; omega)) _) | (refine Below.setCell ?_ (by first | omega | (simp [go_sem]; done) | (simp [go_sem]; omega)) _)))))).mono ?_)
            rintro e w4 ⟨v4, rfl, htab4, hk4⟩
            have HK4 := Lib.hid hk4
            have HT4 := Lib.hid htab4
            have HL : Hid (BldLoop l g b w (k + 1) v3 w4) := Lib.hid ⟨_, HNX2.out, ⟨_, _, HT4.out, by exact HM.out, HRT3.out.ck (Ck.of_kb hk4 (HTI.out.below (by (repeat (first | exact Below.refl _ _ | refine Below.drew ?_ | (refine below_gw' ?_ (by first | omega | (simp [go_sem]; done) | (simp [go_sem]; omega)) _) | (refine Below.alloc ?_ (by first | omega | (simp [go_sem]; done) | (simp [go_sem]; omega)) _) | (refine Below.setCell ?_ (by first | omega | (simp [go_sem]; done) | (simp [go_sem]; omega)) _))))).map), by exact HR0.out, fun h => absurd h HNE.out⟩, (HBEL.out.trans (Below.mono (show Below wr.heap.size wr _ by (repeat (first | exact Below.refl _ _ | refine Below.drew ?_ | (refine below_gw' ?_ (by first | omega | (simp [go_sem]; done) | (simp [go_sem]; omega)) _) | (refine Below.alloc ?_ (by first | omega | (simp [go_sem]; done) | (simp [go_sem]; omega)) _) | (refine Below.setCell ?_ (by first | omega | (simp [go_sem]; done) | (simp [go_sem]; omega)) _)))) hszr)).trans (hk4.low HGB.out (Nat.le_trans hszr (Below.size (show Below wr.heap.size wr _ by (repeat (first | exact Below.refl _ _ | refine Below.drew ?_ | (refine below_gw' ?_ (by first | omega | (simp [go_sem]; done) | (simp [go_sem]; omega)) _) | (refine Below.alloc ?_ (by first | omega | (simp [go_sem]; done) | (simp [go_sem]; omega)) _) | (refine Below.setCell ?_ (by first | omega | (simp [go_sem]; done) | (simp [go_sem]; omega)) _)))))))⟩
            clear hk4 htab4
            go_wp2_with fail
            go_roundw
            case rel => exact ⟨k + 1, by omega, by go_num, HL.out⟩
            case measure => simp [intOf]; omega
      · obtain rfl : k = l.length := by omega
        go_wp2_with fail
        exact bodyPost_ret (v := .tuple #[.pointer (some ⟨g, 0, none⟩), _, .bool true]) (by simp [results, Tryz.results9, go_sem]) rfl ⟨HBEL.out, .inr ⟨L, g, b, _, by rw [HT.out]; have := HF.out; rw [List.take_length] at this; exact this, rfl, HTB.out, HGB.out⟩⟩
end Go.Proofs.YtnjpfhihbjihbaaGreatDoor

/- The law's own function: same; (*symbols.Table).Value. -/
namespace Go.Proofs.YtnjpfhihbjihbaaGreatDoor
open Go.RowKit Go.Sort

open Go.ChangeMaps
theorem wpList_slen {P : Program} {w : World} {ops : Array Oper} {rest : List Oper} {o : Oper} {a : Act} {Q : Exit → Act → World → Prop}
    (hg : o.guard = none) (m : Operand) (T : TypeId) (hop : o.op = Op.call { callee := Callee.builtin Builtin.len, args := #[m], argTypes := #[T] }) (K E : TypeId) (ht : P.underlying T = some (.map K E)) (b : Nat) (l : List (ByteArray × Value)) (hm : a.eval m = .map (some b)) (h : SMap w b l)
    (hK : wpList P ops Q rest (a.put o.dst (.int .i64 l.length)) w) :
    wpList P ops Q (o :: rest) a w := by
  refine wpList_plain hg fun K' hK' => ?_
  obtain ⟨es, c, hb, he, _⟩ := h
  have hl : es.size = l.length := by
    have := congrArg List.length he
    simpa using this
  unfold Oper.wp
  have hrun : (Builtin.len_ #[T] o.type #[.map (some b)]).run P w = .ok (.int .i64 l.length) w := by simp [Builtin.len_, run_underlying ht, MapKept.run_getObj_map hb, goInt, Result.andThen, hl]
  simp [execOp, hop, resolve, invoke, builtin, hm, hrun, Result.andThen]
  exact hK' _ _ hK
/-- The same keys in both: as many. -/
theorem env_len {lO : List (ByteArray × Value)} {k : List (ByteArray × Int)} {e : Env} (h1 : (lO.map Prod.fst).Nodup) (h2 : (k.map Prod.fst).Nodup) (h3 : ∀ t, sget lO t = (e t).map (Value.int .i64)) (h4 : envL k = e) : lO.length = k.length := by
  have hs : ∀ t, (∃ v, sget lO t = some v) ↔ t ∈ lO.map Prod.fst := fun t => by
    constructor
    · rintro ⟨v, hv⟩; exact List.mem_map_of_mem (f := Prod.fst) (sget_mem hv)
    · intro ht
      obtain ⟨x, hx, rfl⟩ := List.mem_map.1 ht
      exact ⟨x.2, sget_of_mem h1 hx⟩
  have hk : ∀ t, t ∈ k.map Prod.fst ↔ ∃ n, e t = some n := fun t => by
    rw [← h4, ← Option.isSome_iff_exists, envL_has]
    simp [List.mem_map]
  have hmem : ∀ t, t ∈ lO.map Prod.fst ↔ t ∈ k.map Prod.fst := fun t => by
    rw [← hs, hk]
    constructor
    · rintro ⟨v, hv⟩
      rw [h3] at hv
      rcases he : e t with _ | n
      · rw [he] at hv; cases hv
      · exact ⟨n, rfl⟩
    · rintro ⟨n, hn⟩
      exact ⟨_, by rw [h3, hn]; rfl⟩
  have a := nodup_len h1 fun x hx => (hmem x).1 hx
  have b := nodup_len h2 fun x hx => (hmem x).2 hx
  simp only [List.length_map] at a b
  omega
theorem envL_at {l : List (ByteArray × Int)} (hn : (l.map Prod.fst).Nodup) {x : ByteArray × Int} (hx : x ∈ l) : envL l x.1 = some x.2 := by
  rcases List.eq_nil_or_concat l with rfl | ⟨l', y, hl⟩
  · cases hx
  · rw [List.concat_eq_append] at hl
    subst hl
    rw [envL_get]
    rw [List.map_append, List.nodup_append] at hn
    obtain ⟨n1, _, n3⟩ := hn
    rcases List.mem_append.1 hx with hx | hx
    · have hne : x.1 ≠ y.1 := n3 x.1 (List.mem_map_of_mem hx) y.1 (by simp)
      rw [if_neg hne]
      exact envL_at n1 hx
    · rw [List.mem_singleton] at hx; subst hx
      rw [if_pos rfl]
  termination_by l.length
  decreasing_by simp_all
set_option maxHeartbeats 1000000 in
set_option maxRecDepth 100000 in
theorem same20_any (L : List Sy) (k : List (ByteArray × Int)) (hk : envL k = Kn L) (hn : (k.map Prod.fst).Nodup) (hl : k.length ≤ 1000000) (m v : Value) (w : World) (hm : KnMap w L m) (hr : Row w v k.length (valc k)) :
    Calls Tryz.prog 18 #[m, v] w fun e w' => e = .returned (.bool true) ∧ Below w.heap.size w w' := by
  obtain ⟨bo, lO, rfl, hsm, hob⟩ := hm
  have hlen := env_len hsm.nodup hn hob hk
  obtain ⟨a, cap, rfl, hcap, hc⟩ := hr.vals
  have hl1 : (k.length : Int) ≤ 1000000 := by omega
  have hc1 : (k.length : Int) ≤ (cap : Int) := by omega
  have hb0 : ((k.length : Int) != (k.length : Int)) = false := by simp
  have HC := Lib.hid hc; clear hc hr
  have HSM := Lib.hid hsm; clear hsm
  have HOB : Hid (∀ x ∈ k, sget lO x.1 = some (.int .i64 x.2)) := Lib.hid fun x hx => by rw [hob, ← hk, envL_at hn hx]; rfl
  clear hob hn hk
  have HLEN := Lib.hid hlen; clear hlen
  go_enter Tryz.func18, Tryz.ntmps18
  go_wp2_with (at_len; refine wpList_slen rfl _ 49 rfl 9 3 Tryz.underlying49 bo lO rfl HSM.out ?_; rw [HLEN.out])
  go_loopw [16] (fun i wr => ∃ q : Nat, q ≤ k.length ∧ i = .int .i64 q ∧ Below w.heap.size w wr) (fun i _ => k.length - (intOf i).toNat)
  case atStart => exact ⟨0, Nat.zero_le _, rfl, Below.refl _ _⟩
  case round =>
    obtain ⟨q, hq, rfl, hbel⟩ := hrel
    have HBEL := Lib.hid hbel; clear hbel
    by_cases hlt : q < k.length
    · obtain ⟨x, hx⟩ : ∃ x, k[q]? = some x := ⟨_, List.getElem?_eq_getElem hlt⟩
      obtain ⟨g, o, rfl, hg, hcs⟩ := HC.out (by rintro rfl; simp at hx)
      obtain ⟨e0, e1⟩ := hcs q x hx
      have f0 := (HBEL.out.cell (p := ⟨g, o + q * 2, none⟩) hg).trans e0
      have f1 := (HBEL.out.cell (p := ⟨g, o + q * 2 + 1, none⟩) hg).trans e1
      have hi0 : (0 : Int) ≤ (q : Int) := by omega
      have hi1 : (q : Int) < (k.length : Int) := by omega
      have hsz : w.heap.size ≤ wr.heap.size := HBEL.out.size
      have hget := HOB.out x (List.mem_of_getElem? hx)
      clear hcs e0 e1 hx
      obtain ⟨xn, xv⟩ := x
      dsimp only at f0 f1 hget
      have hb1 : (xv != xv) = false := by simp
      have hlk := run_sget (P := Tryz.prog) Tryz.underlying49 Tryz.underlying9 zeroInt ((HSM.out.below HBEL.out).alloc (.cells #[.string xn, .int .i64 xv] 96)) xn true
      rw [hget] at hlk
      simp only [Option.getD_some, Option.isSome_some, if_true] at hlk
      clear hget
      go_wp2_with fail
      go_roundw
      case rel => exact ⟨q + 1, by omega, by go_num, HBEL.out.trans (Below.mono (show Below wr.heap.size wr _ by (repeat (first | exact Below.refl _ _ | refine Below.drew ?_ | (refine below_gw' ?_ (by first | omega | (simp [go_sem]; done) | (simp [go_sem]; omega)) _) | (refine Below.alloc ?_ (by first | omega | (simp [go_sem]; done) | (simp [go_sem]; omega)) _) | (refine Below.setCell ?_ (by first | omega | (simp [go_sem]; done) | (simp [go_sem]; omega)) _)))) hsz)⟩
      case measure => simp [intOf]; omega
    · obtain rfl : q = k.length := by omega
      go_wp2_with fail
      go_ret
      exact ⟨rfl, HBEL.out⟩
end Go.Proofs.YtnjpfhihbjihbaaGreatDoor

/- strconv.FormatInt at base 16, for 10 to 65535. -/
namespace Go.Proofs.YtnjpfhihbjihbaaGreatDoor
open Go.RowKit Go.Sort

/-- The byte of a digit, small letters. -/
def hexLow (d : Nat) : UInt8 := if d < 10 then UInt8.ofNat (48 + d) else UInt8.ofNat (87 + d)
/-- The digits of a number to the base 16, small letters. -/
def hexDigs : Nat → Nat → List UInt8
  | 0, _ => []
  | f + 1, u => if u < 16 then [hexLow u] else hexDigs f (u / 16) ++ [hexLow (u % 16)]

theorem hexDigs_small (f u : Nat) (h : u < 16) : hexDigs (f + 1) u = [hexLow u] := by simp [hexDigs, h]
theorem hexDigs_big (f u : Nat) (h : 16 ≤ u) : hexDigs (f + 1) u = hexDigs f (u / 16) ++ [hexLow (u % 16)] := by
  simp [hexDigs, show ¬ u < 16 by omega]

/-- The one cell of a package variable that is read: bits.TrailingZeros at 16. -/
def Tabs (w : World) : Prop := w.cell? ⟨3, 15, none⟩ = some (.int .u8 4)
theorem Tabs.lt {w : World} (h : Tabs w) : 3 < w.heap.size := block_lt_of_cell (a := ⟨3, 15, none⟩) h
theorem Tabs.below {w w' : World} (h : Tabs w) (hb : Below w.heap.size w w') : Tabs w' := (hb.cell (p := ⟨3, 15, none⟩) h.lt).trans h

theorem tz16_eq : IntKind.u64.wrap (bits BinOp.and IntKind.u64 16 (IntKind.u64.wrap (-16)) * 285870213051353865) / 288230376151711744 = 15 := by decide +kernel
theorem pow16_eq : bits BinOp.and IntKind.i64 16 15 = 0 := by decide +kernel
theorem and15_u64 (u : Nat) (h : u < 18446744073709551616) : bits BinOp.and IntKind.u64 (u : Int) 15 = ((u % 16 : Nat) : Int) := by
  have h1 := bits_and_u64_nat u 15 h (by omega)
  rw [show (15 : Nat) = 2 ^ 4 - 1 from rfl, Nat.and_two_pow_sub_one_eq_mod] at h1
  exact h1

theorem hexConst : ∀ d : Fin 16, (([48, 49, 50, 51, 52, 53, 54, 55, 56, 57, 97, 98, 99, 100, 101, 102, 103, 104, 105, 106, 107, 108, 109, 110, 111, 112, 113, 114, 115, 116, 117, 118, 119, 120, 121, 122] : List UInt8))[d.val]? = some (hexLow d.val) := by decide

set_option maxHeartbeats 400000 in
theorem tz16 (w : World) (hT : w.cell? ⟨3, 15, none⟩ = some (.int .u8 4)) :
    Calls Tryz.prog 198 #[.int .u64 16] w fun e w' => e = .returned (.int .i64 4) ∧ w' = w := by
  have e2 := tz16_eq
  go_enter Tryz.func198, Tryz.ntmps198
  go_wp2
  go_ret
  exact ⟨rfl, rfl⟩

set_option maxHeartbeats 400000 in
theorem pow16 (w : World) :
    Calls Tryz.prog 197 #[.int .i64 16] w fun e w' => e = .returned (.bool true) ∧ w' = w := by
  have e2 := pow16_eq
  go_enter Tryz.func197, Tryz.ntmps197
  go_wp2
  go_ret
  exact ⟨rfl, rfl⟩

theorem zero65 : (Tryz.zeroCells247).size = 65 := by kernel_rfl

set_option maxHeartbeats 4000000 in
set_option maxRecDepth 100000 in
theorem fmt16 (n : Nat) (w : World) (h1 : 10 ≤ n) (h2 : n ≤ 65535) (hT0 : Tabs w) :
    Calls Tryz.prog 189 #[.int .i64 n, .int .i64 16] w fun e w' => e = .returned (.string ⟨(hexDigs 4 n).toArray⟩) ∧ Below w.heap.size w w' := by
  have hsz := hT0.lt
  have hT : w.cell? ⟨3, 15, none⟩ = some (.int .u8 4) := hT0
  clear hT0
  have h0 : (0 : Int) ≤ (n : Int) := by omega
  have h3 : (n : Int) ≤ 65535 := by omega
  have h4 : ¬ (n : Int) < 0 := by omega
  have h5 : decide ((n : Int) < 0) = false := by simp
  go_enter Tryz.func189, Tryz.ntmps189
  go_wp2_with (first | (go_at_call 194; go_in) | (go_at_call 197; refine (pow16 _).mono ?_; rintro e w' ⟨rfl, rfl⟩) | (go_at_call 198; refine (tz16 _ ?_).mono ?_; (simp [go_sem, hT, hsz]); rintro e w' ⟨rfl, rfl⟩))
  have hz := zero65
  generalize Tryz.zeroCells247 = Z at hz ⊢
  have Hz := Lib.hid hz; clear hz
  go_loopw [1, 13] (fun u i wr => ∃ (x k f : Nat) (C : Array Value) (l : List UInt8), u = .int .u64 x ∧ i = .int .i64 k ∧ wr = w.alloc (.cells C 247) ∧ C.size = 65 ∧ k = 61 + f ∧ f ≤ 4 ∧ 1 ≤ f ∧ x < 16 ^ f ∧ l.length + f = 4 ∧ x ≤ 65535 ∧
      hexDigs 4 n = hexDigs f x ++ l ∧ (∀ j (hj : j < l.length), C[k + j]? = some (.int .u8 (l[j].toNat : Int))))
    (fun u _ _ => (intOf u).toNat)
  case atStart => exact ⟨n, 65, 4, Z, [], rfl, rfl, rfl, Hz.out, rfl, by omega, by omega, by omega, rfl, h2, by simp, by simp⟩
  case round =>
    obtain ⟨x, k, f, C, l, rfl, rfl, rfl, hCs, hk, hf, hf1, hx, hl, hx2, hd, hC⟩ := hrel
    have Hd := Lib.hid hd; clear hd
    have HC := Lib.hid hC; clear hC
    have HCs := Lib.hid hCs; clear hCs
    have hk1 : 62 ≤ k := by omega
    have hk2 : k ≤ 65 := by omega
    have Hk := Lib.hid hk; clear hk
    have Hl := Lib.hid hl; clear hl
    have Hx := Lib.hid hx; clear hx
    obtain ⟨v0, hv0⟩ : ∃ v, C[k - 1]? = some v := ⟨_, Array.getElem?_eq_getElem (by have := HCs.out; omega)⟩
    by_cases hge : 16 ≤ x
    · have hf2 : 2 ≤ f := by
        have := Hx.out
        rcases Nat.lt_or_ge f 2 with h | h
        · obtain rfl : f = 1 := by omega
          omega
        · exact h
      have hb := and15_u64 x (by omega)
      obtain ⟨y, hy⟩ : ∃ y, x % 16 = y := ⟨_, rfl⟩
      have hy1 : y < 16 := by omega
      rw [hy] at hb
      have Hy := Lib.hid hy; clear hy
      go_wp2
      go_roundw
      case rel =>
        refine ⟨x / 16, k - 1, f - 1, _, hexLow y :: l, by go_num, by go_num, rfl, by rw [Array.size_setIfInBounds]; exact HCs.out, by have := Hk.out; omega, by omega, by have := Hl.out; have := Hk.out; omega, ?_, ?_, by omega, ?_, ?_⟩
        · have := Hx.out
          obtain ⟨g, rfl⟩ : ∃ g, f = g + 1 := ⟨f - 1, by omega⟩
          rw [Nat.pow_succ] at this
          show x / 16 < 16 ^ g
          omega
        · have := Hl.out
          simp; omega
        · obtain ⟨g, rfl⟩ : ∃ g, f = g + 1 := ⟨f - 1, by omega⟩
          rw [Hd.out, hexDigs_big g x hge, Hy.out]
          simp
        · intro j hj
          have hcs := HCs.out
          rw [Array.getElem?_setIfInBounds]
          rcases j with _ | j
          · rw [if_pos (by omega), if_pos (by omega)]
            have h0 := hexConst ⟨y, hy1⟩
            have h1 := List.getElem?_eq_some_iff.1 h0
            obtain ⟨_, h1⟩ := h1
            show some (Value.int .u8 _) = some (Value.int .u8 _)
            rw [← h1]; rfl
          · rw [if_neg (by omega), show k - 1 + (j + 1) = k + j from by omega]
            exact HC.out j (by simpa using hj)
      case measure => simp [intOf]; omega
    · have hcs := HCs.out
      have hal : Tryz.prog.arrayLen 247 = 65 := by kernel_rfl
      have hsl : ∀ W, (Instr.sliceAt 247 (.pointer (some ⟨w.heap.size, 0, none⟩)) (some (.int .i64 ((k : Int) - 1))) none none).run Tryz.prog W = .ok (.slice (some ⟨w.heap.size, k - 1, none⟩) (66 - k) (66 - k)) W := fun W => by
        rw [run_sliceAt_array_l W 247 ⟨w.heap.size, 0, none⟩ (by kernel_rfl) .i64 ((k : Int) - 1) (by omega) (by rw [hal]; omega), hal]
        go_simp
        omega
      have hcv := run_convert_bytes_back (P := Tryz.prog) (w.alloc (.cells (C.setIfInBounds (k - 1) (.int .u8 ((hexLow x).toNat : Int))) 247)) 205 9 5 ⟨w.heap.size, k - 1, none⟩ (66 - k) (hexLow x :: l) Tryz.underlying205 Tryz.underlying5 Tryz.underlying9 (by
        intro j hj
        rw [show Addr.add ⟨w.heap.size, k - 1, none⟩ j = ⟨w.heap.size, k - 1 + j, none⟩ from addr_add _ _ _, World.cell?_alloc_at _ _ _ _ rfl, Array.getElem?_setIfInBounds]
        rcases j with _ | j
        · rw [if_pos (by omega), if_pos (by omega)]; rfl
        · rw [if_neg (by omega), show k - 1 + (j + 1) = k + j from by omega]
          exact HC.out j (by simpa using hj))
      have hll : (hexLow x :: l).length = 66 - k := by have := Hl.out; have := Hk.out; simp; omega
      rw [hll] at hcv
      have hdg : (({ data := #[48, 49, 50, 51, 52, 53, 54, 55, 56, 57, 97, 98, 99, 100, 101, 102, 103, 104, 105, 106, 107, 108, 109, 110, 111, 112, 113, 114, 115, 116, 117, 118, 119, 120, 121, 122] } : ByteArray)[x]'(by show x < 36; omega)).toNat = (hexLow x).toNat := by
        obtain ⟨_, h1⟩ := List.getElem?_eq_some_iff.1 (hexConst ⟨x, by omega⟩)
        rw [← h1]; rfl
      have hx16 : ¬ (16 : Int) ≤ (x : Int) := by omega
      clear hal hll hcs
      go_wp2
      go_ret
      exact ⟨by rw [Hd.out]; obtain ⟨g, rfl⟩ : ∃ g, f = g + 1 := ⟨f - 1, by omega⟩; rw [hexDigs_small g x (by omega)]; rfl, (Below.refl _ _).alloc (Nat.le_refl _) _⟩

set_option maxHeartbeats 400000 in
theorem fmtInt16 (n : Nat) (w : World) (h1 : 10 ≤ n) (h2 : n ≤ 65535) (hT : Tabs w) :
    Calls Tryz.prog 185 #[.int .i64 n, .int .i64 16] w fun e w' => e = .returned (.string ⟨(hexDigs 4 n).toArray⟩) ∧ Below w.heap.size w w' := by
  go_enter Tryz.func185, Tryz.ntmps185
  go_wp2_with fail
  refine (fmt16 n _ h1 h2 hT).mono ?_
  rintro e w1 ⟨rfl, hb⟩
  go_wp2_with fail
  go_ret
  exact ⟨rfl, hb⟩
end Go.Proofs.YtnjpfhihbjihbaaGreatDoor
