/- The statement SymbolsValues of chapter 20: proved for every input; no condition beyond the statement's own. -/
import Derived.Test.YtnjpfhihbjihbaaGreatDoorCards
import Derived.Test.YtnjpfhihbjihbaaGreatDoorS30
import Derived.Test.YtnjpfhihbjihbaaGreatDoorS39
import Derived.Test.YtnjpfhihbjihbaaGreatDoorTie
import Derived.Deep.DeepHandedRow
import Derived.Deep.RegionHeld3
import Derived.Lib.LaidTab
import Derived.Lib.SmallJoins
import Derived.OpenShut
import Derived.ProofKit
import Derived.ShutString
/- The walk of the law SymbolsValues. -/
namespace Go.Proofs.YtnjpfhihbjihbaaGreatDoor
open Go.RowKit Go.Sort

open Go.ChangeMaps
theorem bthen {w u v : World} (h : Below w.heap.size w u) (k : Below u.heap.size u v) : Below w.heap.size w v := h.trans (k.mono h.size)
theorem keep2 {W w' : World} {a b i j : Nat} {x y : Value} (hb : Below W.heap.size W w') (ha : a < W.heap.size) (hc : b < W.heap.size) (h : W.cell? ⟨a, i, none⟩ = some x ∧ W.cell? ⟨b, j, none⟩ = some y) : w'.cell? ⟨a, i, none⟩ = some x ∧ w'.cell? ⟨b, j, none⟩ = some y :=
  ⟨(hb.cell (p := ⟨a, i, none⟩) ha).trans h.1, (hb.cell (p := ⟨b, j, none⟩) hc).trans h.2⟩
theorem keep5 {W w' : World} {a : Nat} {x y z u v : Value} (hb : Below W.heap.size W w') (ha : a < W.heap.size) (h : W.cell? ⟨a, 0, none⟩ = some x ∧ W.cell? ⟨a, 1, none⟩ = some y ∧ W.cell? ⟨a, 2, none⟩ = some z ∧ W.cell? ⟨a, 3, none⟩ = some u ∧ W.cell? ⟨a, 4, none⟩ = some v) : w'.cell? ⟨a, 0, none⟩ = some x ∧ w'.cell? ⟨a, 1, none⟩ = some y ∧ w'.cell? ⟨a, 2, none⟩ = some z ∧ w'.cell? ⟨a, 3, none⟩ = some u ∧ w'.cell? ⟨a, 4, none⟩ = some v :=
  ⟨(hb.cell (p := ⟨a, 0, none⟩) ha).trans h.1, (hb.cell (p := ⟨a, 1, none⟩) ha).trans h.2.1, (hb.cell (p := ⟨a, 2, none⟩) ha).trans h.2.2.1, (hb.cell (p := ⟨a, 3, none⟩) ha).trans h.2.2.2.1, (hb.cell (p := ⟨a, 4, none⟩) ha).trans h.2.2.2.2⟩
set_option maxHeartbeats 4000000 in
set_option maxRecDepth 100000 in
theorem lawSVals_walk (l : List Dfn) (d : Dfn) (v : Value) (w : World) (hr : Row w v l.length (l.flatMap dfnc)) (hl : l.length ≤ maxLen) (hsz : ∀ d ∈ l, d.name.size ≤ maxLen ∧ d.text.size ≤ maxLen) (hd1 : d.name.size ≤ maxLen) (hd2 : d.text.size ≤ maxLen) :
    Calls Tryz.prog 3 #[v, dfnV d] w fun e w' => e = .returned (.bool true) ∧ Below w.heap.size w w' := by
  have hbu := fun w hr => build_any l v w hr hl hsz
  have hsy := fun w => symbol20_any d w hd1 hd2
  unfold BuildRes at hbu
  unfold SymRes dfnV at hsy
  have HR := Lib.hid hr
  have HBU := Lib.hid hbu
  obtain ⟨dd, hdd⟩ : ∃ x, d = x := ⟨_, rfl⟩
  have HSD : Hid (d = dd) := Lib.hid hdd
  obtain ⟨name, n, text, here, line⟩ := d
  dsimp only [dfnV] at *
  rw [hdd] at hsy
  have HSY := Lib.hid hsy
  clear hbu hr hsy hdd hd1 hd2 hsz hl
  go_enter Tryz.func3, Tryz.ntmps3
  go_wp2_with fail
  (with_reducible refine (HBU.out _ (HR.out.below (by (repeat (first | exact Below.refl _ _ | refine Below.drew ?_ | (refine below_gw' ?_ (by first | omega | (simp [go_sem]; done) | (simp [go_sem]; omega)) _) | (refine Below.alloc ?_ (by first | omega | (simp [go_sem]; done) | (simp [go_sem]; omega)) _) | (refine Below.setCell ?_ (by first | omega | (simp [go_sem]; done) | (simp [go_sem]; omega)) _)))))).mono ?_)
  rintro e w2 ⟨hb2, hres⟩
  obtain ⟨hbw, hsz2, k0, k1, k2, k3, k4⟩ := box5_all hb2
  have HBW := Lib.hid hbw
  clear hb2 hbw
  rcases hres with ⟨_, rfl⟩ | ⟨L, g, b, rv, hL, rfl, htabs, hgb⟩
  · go_wp2_with fail
    (with_reducible refine (HSY.out _).mono ?_)
    rintro e w3 ⟨p, rfl, _, hb3⟩
    obtain ⟨m0, m1, m2, m3, m4⟩ := keep5 hb3 hsz2 ⟨k0, k1, k2, k3, k4⟩
    have HBW3 : Hid (Below w.heap.size w w3) := Lib.hid (HBW.out.trans (hb3.mono (Nat.le_of_lt hsz2)))
    clear hb3 k0 k1 k2 k3 k4
    go_wp2_with fail
    (with_reducible refine (alive20 _).mono ?_)
    rintro e w4 ⟨rfl, hb4⟩
    obtain ⟨p4, rfl⟩ := gw_of_below hb4
    clear hb4
    go_wp2_with fail
    go_ret
    exact ⟨rfl, bthen HBW3.out (by (repeat (first | exact Below.refl _ _ | refine Below.drew ?_ | (refine below_gw' ?_ (by first | omega | (simp [go_sem]; done) | (simp [go_sem]; omega)) _) | (refine Below.alloc ?_ (by first | omega | (simp [go_sem]; done) | (simp [go_sem]; omega)) _) | (refine Below.setCell ?_ (by first | omega | (simp [go_sem]; done) | (simp [go_sem]; omega)) _))))⟩
  · have htab := tableD_ok hL
    have HTABS := Lib.hid htabs
    go_wp2_with fail
    (with_reducible refine (HSY.out _).mono ?_)
    rintro e w3 ⟨p, rfl, ho3, hb3⟩
    obtain ⟨m0, m1, m2, m3, m4⟩ := keep5 hb3 hsz2 ⟨k0, k1, k2, k3, k4⟩
    have HBW3 : Hid (Below w.heap.size w w3) := Lib.hid (bthen HBW.out hb3)
    have HTB3 := Lib.hid (htabs.below hb3)
    have hsz3 : w.heap.size < w3.heap.size := Nat.lt_of_lt_of_le hsz2 hb3.size
    clear hb3 k0 k1 k2 k3 k4 htabs HTABS HBW hsz2 hgb
    rcases hs : symD dd with _ | s
    · rw [hs] at ho3
      clear ho3 htab hL
      simp only [Option.isSome_none]
      go_wp2_with fail
      (with_reducible refine (alive20 _).mono ?_)
      rintro e w4 ⟨rfl, hb4⟩
      obtain ⟨p4, rfl⟩ := gw_of_below hb4
      clear hb4
      go_wp2_with fail
      go_ret
      exact ⟨rfl, bthen HBW3.out (by (repeat (first | exact Below.refl _ _ | refine Below.drew ?_ | (refine below_gw' ?_ (by first | omega | (simp [go_sem]; done) | (simp [go_sem]; omega)) _) | (refine Below.alloc ?_ (by first | omega | (simp [go_sem]; done) | (simp [go_sem]; omega)) _) | (refine Below.setCell ?_ (by first | omega | (simp [go_sem]; done) | (simp [go_sem]; omega)) _))))⟩
    · simp only [Option.isSome_some]
      by_cases ht0 : text.data.toList = []
      · have t1 : text.toList = [] := by rw [ByteArray.toList_eq]; exact ht0
        have t2 : (!text.toList.isEmpty) = false := by rw [t1]; rfl
        clear ho3 htab hL hs ht0
        go_wp2_with fail
        (with_reducible refine (alive20 _).mono ?_)
        rintro e w4 ⟨rfl, hb4⟩
        obtain ⟨p4, rfl⟩ := gw_of_below hb4
        clear hb4
        go_wp2_with fail
        go_ret
        exact ⟨rfl, bthen HBW3.out (by (repeat (first | exact Below.refl _ _ | refine Below.drew ?_ | (refine below_gw' ?_ (by first | omega | (simp [go_sem]; done) | (simp [go_sem]; omega)) _) | (refine Below.alloc ?_ (by first | omega | (simp [go_sem]; done) | (simp [go_sem]; omega)) _) | (refine Below.setCell ?_ (by first | omega | (simp [go_sem]; done) | (simp [go_sem]; omega)) _))))⟩
      · have hdt := HSD.out
        obtain ⟨x, hx, hse⟩ := symD_node hs (by rw [← hdt]; exact ht0)
        rw [← hdt] at hx hse
        dsimp only at hx hse
        have hok := symD_ok hs
        have hox := ho3 s hs
        rw [hse] at hok hox
        dsimp only at hox
        obtain ⟨hg1, hh, hg2⟩ := hok
        dsimp only at hh hg2
        obtain ⟨hgood, hnodes⟩ := hg2 x rfl
        have t2 : (!text.toList.isEmpty) = true := by
          rw [ByteArray.toList_eq]
          rcases hh : text.data.toList with _ | ⟨a, l⟩
          · exact absurd hh ht0
          · rfl
        have t3 : text.toList.isEmpty = false := by simpa using t2
        obtain ⟨M, R, hTI, hM, hRT, hR0, hnil⟩ := HTB3.out
        have hokM : ∀ y ∈ M, SyOk y.1 := fun y hy => by
          have h1 : y.1 ∈ M.map Prod.fst := List.mem_map_of_mem hy
          rw [hM] at h1
          obtain ⟨s', hs', e⟩ := List.mem_map.1 h1
          rw [← e]; exact norm_ok (htab.1.ok s' hs')
        have hokR : ∀ y ∈ R, SyOk y.1 := fun y hy => htab.1.ok _ (by rw [← hR0]; exact List.mem_map_of_mem hy)
        have hndR : ((R.map Prod.fst).map Sy.name).Nodup := by rw [hR0]; exact htab.1.nodup
        have hlenR : R.length ≤ 1000 := by
          have := htab.2
          rw [← hR0, List.length_map] at this
          omega
        have hnd : ∀ w, Calls Tryz.prog 13 #[.string text] w fun e w' => ∃ v, e = .returned v ∧ NodeAt 130 0 w' x v ∧ Below w.heap.size w w' := fun w => by
          have h := node20_any text w
          unfold NdRes at h
          rw [hx] at h
          exact h
        have hva := fun v w (hT : TabIn w g b M) hn => value_any g b M hokM x hgood here hh v w hT hn
        have hkr := fun w (hT : RTab w rv R) => known20_any R rv w hT hlenR hokR hndR
        have hevr := fun m w h1 h2 => reval_any (knownR L) here (Nat.le_trans (knownR_len htab.1.nodup) (by omega)) (fun s n h => by rw [knownR_env htab.1.nodup] at h; exact Kn_in htab.1.ok s n h) hh m x hgood (.pointer p) w h1 h2
        rw [hM, norm_Kn] at hva
        rw [hR0] at hkr
        rw [knownR_env htab.1.nodup] at hevr
        unfold EvRes at hva hevr
        generalize x.eval (Kn L) here = r at hva hevr
        obtain ⟨r1, r2⟩ := r
        dsimp only at hva hevr
        have HND := Lib.hid hnd
        have HVA := Lib.hid hva
        have HKR := Lib.hid hkr
        have HEVR := Lib.hid hevr
        have HTI := Lib.hid hTI
        have HRT := Lib.hid hRT
        have HOX : Hid (NodeAt 89 0 w3 x (.pointer p)) := Lib.hid hox
        have hr1 : (r1 == r1) = true := by simp
        have hr2 : (r2 == r2) = true := by simp
        clear hnd hva hkr hevr hTI hRT hox ho3 htab hL hs ht0 hdt hse hg1 hg2 hgood hnodes hh hM hR0 hnil hokM hokR hndR hlenR HTB3 hx
        go_wp2_with fail
        obtain ⟨U, hU⟩ : ∃ U, w3.alloc (.cells #[.string name, .int .i64 n, .pointer p, .int .i64 here, .int .i64 line] 31) = U := ⟨_, rfl⟩
        have hbU : Below w3.heap.size w3 U := by rw [← hU]; (repeat (first | exact Below.refl _ _ | refine Below.drew ?_ | (refine below_gw' ?_ (by first | omega | (simp [go_sem]; done) | (simp [go_sem]; omega)) _) | (refine Below.alloc ?_ (by first | omega | (simp [go_sem]; done) | (simp [go_sem]; omega)) _) | (refine Below.setCell ?_ (by first | omega | (simp [go_sem]; done) | (simp [go_sem]; omega)) _)))
        have hC : U.heap[w3.heap.size]? = some (.cells #[.string name, .int .i64 n, .pointer p, .int .i64 here, .int .i64 line] 31 (0, 0)) := by rw [← hU]; exact alloc_at' w3 _
        rw [hU]
        have hltC : w3.heap.size < U.heap.size := lt_of_block hC
        have hltB : w.heap.size < U.heap.size := Nat.lt_trans hsz3 hltC
        have hSC : U.cell? ⟨w3.heap.size, 2, none⟩ = some (.pointer p) ∧ U.cell? ⟨w.heap.size, 3, none⟩ = some (.int .i64 here) := ⟨(cell_at hC 2).trans rfl, (hbU.cell (p := ⟨w.heap.size, 3, none⟩) hsz3).trans m3⟩
        have hSB : U.cell? ⟨w.heap.size, 2, none⟩ = some (.string text) ∧ U.cell? ⟨w.heap.size, 3, none⟩ = some (.int .i64 here) := ⟨(hbU.cell (p := ⟨w.heap.size, 2, none⟩) hsz3).trans m2, hSC.2⟩
        have HTIU := Lib.hid (HTI.out.below hbU)
        have HRTU := Lib.hid (HRT.out.below hbU)
        have HOXU := Lib.hid (NodeAt.below HOX.out hbU)
        have HBU : Hid (Below w.heap.size w U) := Lib.hid (bthen HBW3.out hbU)
        have HSC := Lib.hid hSC
        clear hU hbU hC hSC m0 m1 m2 m3 m4 HTI HRT HOX HBW3
        go_region_held3 (fun w' => w'.cell? ⟨w.heap.size, 2, none⟩ = some (.string text) ∧ w'.cell? ⟨w.heap.size, 3, none⟩ = some (.int .i64 here)) (first | exact hSB | exact K4 | exact K5) (first | ((with_reducible refine (HND.out _).mono ?_); rintro e w4 ⟨v4, rfl, hn4, hb4⟩; have hbw4 : Below U.heap.size U w4 := Below.trans (b := U.drew) (by (repeat (first | exact Below.refl _ _ | refine Below.drew ?_ | (refine below_gw' ?_ (by first | omega | (simp [go_sem]; done) | (simp [go_sem]; omega)) _) | (refine Below.alloc ?_ (by first | omega | (simp [go_sem]; done) | (simp [go_sem]; omega)) _) | (refine Below.setCell ?_ (by first | omega | (simp [go_sem]; done) | (simp [go_sem]; omega)) _)))) hb4; have K4 := keep2 hbw4 hltB hltB hSB) | ((with_reducible refine (HVA.out _ _ (HTIU.out.below hbw4) hn4).mono ?_); rintro e w5 ⟨rfl, hb5⟩; have K5 := keep2 hb5 (Nat.lt_of_lt_of_le hltB hbw4.size) (Nat.lt_of_lt_of_le hltB hbw4.size) K4))
        have hbU5 : Below U.heap.size U w5 := bthen hbw4 hb5
        have hSC5 := keep2 hbU5 hltC hltB HSC.out
        have HRT5 := Lib.hid (HRTU.out.below hbU5)
        have HOX5 := Lib.hid (NodeAt.below HOXU.out hbU5)
        have HB5 : Hid (Below w.heap.size w w5) := Lib.hid (bthen HBU.out hbU5)
        have hlt5C : w3.heap.size < w5.heap.size := Nat.lt_of_lt_of_le hltC hbU5.size
        have hlt5B : w.heap.size < w5.heap.size := Nat.lt_of_lt_of_le hltB hbU5.size
        clear hbU5 hbw4 hb5 hb4 hn4 K4 K5 hSB HSC HRTU HOXU HBU HTIU
        go_wp2_with fail
        go_region_held3 (fun w' => w'.cell? ⟨w3.heap.size, 2, none⟩ = some (.pointer p) ∧ w'.cell? ⟨w.heap.size, 3, none⟩ = some (.int .i64 here)) (first | exact hSC5 | exact K6 | exact K7) (first | ((with_reducible refine (HKR.out _ (HRT5.out.below (by (repeat (first | exact Below.refl _ _ | refine Below.drew ?_ | (refine below_gw' ?_ (by first | omega | (simp [go_sem]; done) | (simp [go_sem]; omega)) _) | (refine Below.alloc ?_ (by first | omega | (simp [go_sem]; done) | (simp [go_sem]; omega)) _) | (refine Below.setCell ?_ (by first | omega | (simp [go_sem]; done) | (simp [go_sem]; omega)) _)))))).mono ?_); rintro e w6 ⟨v6, rfl, hr6, hb6⟩; have hbw6 : Below w5.heap.size w5 w6 := Below.trans (b := w5.drew) (by (repeat (first | exact Below.refl _ _ | refine Below.drew ?_ | (refine below_gw' ?_ (by first | omega | (simp [go_sem]; done) | (simp [go_sem]; omega)) _) | (refine Below.alloc ?_ (by first | omega | (simp [go_sem]; done) | (simp [go_sem]; omega)) _) | (refine Below.setCell ?_ (by first | omega | (simp [go_sem]; done) | (simp [go_sem]; omega)) _)))) hb6; have K6 := keep2 hbw6 hlt5C hlt5B hSC5) | ((with_reducible refine (HEVR.out _ _ (NodeAt.below HOX5.out hbw6) hr6).mono ?_); rintro e w7 ⟨rfl, hb7⟩; have K7 := keep2 hb7 (Nat.lt_of_lt_of_le hlt5C hbw6.size) (Nat.lt_of_lt_of_le hlt5B hbw6.size) K6))
        have HBW3 : Hid (Below w.heap.size w w7) := Lib.hid (bthen HB5.out (bthen hbw6 hb7))
        clear hbw6 hb7 hb6 hr6 K6 K7 hSC5
        go_wp2_with fail
        (with_reducible refine (alive20 _).mono ?_)
        rintro e w8 ⟨rfl, hb8⟩
        obtain ⟨p8, rfl⟩ := gw_of_below hb8
        clear hb8
        go_wp2_with fail
        go_ret
        exact ⟨rfl, bthen HBW3.out (by (repeat (first | exact Below.refl _ _ | refine Below.drew ?_ | (refine below_gw' ?_ (by first | omega | (simp [go_sem]; done) | (simp [go_sem]; omega)) _) | (refine Below.alloc ?_ (by first | omega | (simp [go_sem]; done) | (simp [go_sem]; omega)) _) | (refine Below.setCell ?_ (by first | omega | (simp [go_sem]; done) | (simp [go_sem]; omega)) _))))⟩
theorem lawSVals (v : Value) (l : List Dfn) (d : Dfn) (w : World) (h0 : Row w v l.length (l.flatMap dfnc) ∧ l.length ≤ maxLen ∧ ∀ d ∈ l, d.name.size ≤ maxLen ∧ d.text.size ≤ maxLen) (h1 : d.name.size ≤ maxLen ∧ d.text.size ≤ maxLen) :
    Calls Tryz.prog 3 #[v, dfnV d] w fun e w' => e = .returned (.bool true) ∧ Below w.heap.size w w' := lawSVals_walk l d v w h0.1 h0.2.1 h0.2.2 h1.1 h1.2
end Go.Proofs.YtnjpfhihbjihbaaGreatDoor

/- The statement SymbolsValues of chapter 20: proved for every input; no condition beyond the statement's own. -/
namespace Go.Proofs.YtnjpfhihbjihbaaGreatDoor.lawSymbolsValues
open Go.ChangeShapes Go.WideShapes Go.ChangeAt Go.RowKit Go.Joins
open Go.ChangeMaps (open_string shut_string)

theorem own : ownKnob Tryz.prog.godebug = none := by kernel_rfl
theorem laidOut : laidOutB Tryz.prog = true := by kernel_rfl

/-- A table of the row's list reads as it is listed, wherever it stands on the list. -/
theorem tab_of_list {P : Program} {W : World} {name : String} {k : IntKind} {zs : List Int} {g : Nat} {t e : TypeId} {n : Nat}
    (hg : P.globalNamed name = some g) (hty : (P.globals[g]?).map (·.type) = some t) (ht : P.underlying t = some (.array n e)) (he : P.underlying e = some (.int k)) (hce : P.cellsOf e = 1) (hct : P.cellsOf t = n) :
    ∀ (l : List (String × DataW Unit)) (ps : List MemPlace), DataW.LaidVars P W l ps → (name, Lib.tabData k zs) ∈ l → Lib.TabIs P W name k zs
  | [], _, _, hm => by cases hm
  | x :: l, ps, h, hm => by
    obtain ⟨nm, d⟩ := x
    obtain ⟨g', t', cs, fuel, p, q, hg', ht', hvar, hd, hrest, _⟩ := h
    rcases List.mem_cons.1 hm with hm | hm
    · cases hm
      obtain rfl := Option.some.inj (hg.symm.trans hg')
      obtain rfl := Option.some.inj (hty.symm.trans ht')
      unfold Lib.TabIs
      rw [hvar, ← Lib.cells_of_tab ht he hce hct hd]
    · exact tab_of_list hg hty ht he hce hct l q hrest hm

theorem table {W : World} (h : laidMetH Tryz.prog Rows.symbolsValuesRow.laid W) : Tabs W := by
  obtain ⟨ps, hv, _⟩ := h
  have ht : Lib.TabIs Tryz.prog W "math/bits.deBruijn64tab" .u8 [0, 1, 56, 2, 57, 49, 28, 3, 61, 58, 42, 50, 38, 29, 17, 4, 62, 47, 59, 36, 45, 43, 51, 22, 53, 39, 33, 30, 24, 18, 12, 5, 63, 55, 48, 27, 60, 41, 37, 16, 46, 35, 44, 21, 52, 32, 23, 11, 54, 26, 40, 15, 34, 20, 31, 10, 25, 14, 19, 9, 13, 8, 7, 6] :=
    tab_of_list (g := 3) (t := 249) (e := 5) (n := 64) (by kernel_rfl) (by kernel_rfl) Tryz.underlying249 Tryz.underlying5 (by kernel_rfl) (by kernel_rfl) _ ps hv (.tail _ (.head _))
  exact ht.cell (by kernel_rfl) 15 (by decide)

set_option maxRecDepth 100000 in
/-- What the walk gives, for every argument and every world that holds the tables. -/
theorem contract (H : Type) (enc : TypeId × Value → H) (W : World) (base : Nat) (args : Array Value) (ds gs : List (DataW H)) (before : List MemPlace)
    (hval : ∀ (j : Nat) t v, Tryz.f3.params[j]? = some t → args[j]? = some v → Value.okWide Tryz.prog W .any base t v)
    (hW : DataW.Whole enc Tryz.prog Tryz.f3.params.toList Rows.symbolsValuesSpec.vars false W args.toList ds gs before) (_hL : laidMetH Tryz.prog Rows.symbolsValuesRow.laid W) :
    Calls Tryz.prog 3 args W fun e W' => ∃ v, e = .returned v ∧ Rows.symbolsValuesSpec.post enc Tryz.prog Tryz.f3 false true false false W args v W' := by
  have hW' := hW
  obtain ⟨p, q, hA0, hV, rfl, hfz, hnd⟩ := hW
  have hA : DataW.TrodAll enc Tryz.prog W 0 (fun _ => true) true Tryz.f3.params.toList args.toList ds p := hA0
  rw [Tryz.params3] at hA hval
  obtain ⟨v0, vs0, d0, ds0, p0, q0, hargs, rfl, rfl, h0, r0⟩ := trodAll_cons hA
  obtain ⟨v1, vs1, d1, ds1, p1, q1, rfl, rfl, rfl, h1, r1⟩ := trodAll_cons r0
  obtain ⟨rfl, rfl, rfl⟩ := trodAll_nil r1
  obtain rfl : args = #[v0, v1] := by cases args; simp_all
  obtain ⟨rfl, rfl⟩ := trodVars_none hV
  have k0 := h0
  have lt0 : ∀ x ∈ p0, x.block < W.heap.size := by obtain ⟨m, hm⟩ := k0; exact DataW.trod_lt m _ _ _ hm
  have k1 := h1
  have lt1 : ∀ x ∈ p1, x.block < W.heap.size := by obtain ⟨m, hm⟩ := k1; exact DataW.trod_lt m _ _ _ hm
  obtain ⟨L0, hr0⟩ := open_dfns (hval 0 22 v0 rfl rfl) h0
  obtain ⟨L1, rfl, hr1⟩ := open_dfn (hval 1 24 v1 rfl rfl) h1
  refine (lawSVals v0 L0 L1 W hr0 hr1).mono fun e W' ⟨he, bel⟩ => ?_
  subst he
  exact ⟨_, rfl, _, _, _, [], _, [], hW', trodAll_mk1 (shut_bool Tryz.underlying4 _), (trodAll_cons_mk (Below.trod laidOut (by kernel_rfl) (of_decide_eq_true (by kernel_rfl)) k0 bel lt0) (trodAll_cons_mk (Below.trod laidOut (by kernel_rfl) (of_decide_eq_true (by kernel_rfl)) k1 bel lt1) trodAll_mk0)), rfl, bel.frame _, fun h => by cases h⟩

/-- A world for the witness: the settled one, the tables holding what their initialisers lay. -/
noncomputable def laidWorld (os : Os) : World :=
  { World.holding Tryz.prog os ⟨#[], #[], []⟩ with heap := ((((World.holding Tryz.prog os ⟨#[], #[], []⟩).heap.modify 2 fun
      | .cells _ t frozen => .cells #[.int .u8 0, .int .u8 1, .int .u8 28, .int .u8 2, .int .u8 29, .int .u8 14, .int .u8 24, .int .u8 3, .int .u8 30, .int .u8 22, .int .u8 20, .int .u8 15, .int .u8 25, .int .u8 17, .int .u8 4, .int .u8 8, .int .u8 31, .int .u8 27, .int .u8 13, .int .u8 23, .int .u8 21, .int .u8 19, .int .u8 16, .int .u8 7, .int .u8 26, .int .u8 12, .int .u8 18, .int .u8 6, .int .u8 11, .int .u8 5, .int .u8 10, .int .u8 9] t frozen
      | o => o).modify 3 fun
      | .cells _ t frozen => .cells #[.int .u8 0, .int .u8 1, .int .u8 56, .int .u8 2, .int .u8 57, .int .u8 49, .int .u8 28, .int .u8 3, .int .u8 61, .int .u8 58, .int .u8 42, .int .u8 50, .int .u8 38, .int .u8 29, .int .u8 17, .int .u8 4, .int .u8 62, .int .u8 47, .int .u8 59, .int .u8 36, .int .u8 45, .int .u8 43, .int .u8 51, .int .u8 22, .int .u8 53, .int .u8 39, .int .u8 33, .int .u8 30, .int .u8 24, .int .u8 18, .int .u8 12, .int .u8 5, .int .u8 63, .int .u8 55, .int .u8 48, .int .u8 27, .int .u8 60, .int .u8 41, .int .u8 37, .int .u8 16, .int .u8 46, .int .u8 35, .int .u8 44, .int .u8 21, .int .u8 52, .int .u8 32, .int .u8 23, .int .u8 11, .int .u8 54, .int .u8 26, .int .u8 40, .int .u8 15, .int .u8 34, .int .u8 20, .int .u8 31, .int .u8 10, .int .u8 25, .int .u8 14, .int .u8 19, .int .u8 9, .int .u8 13, .int .u8 8, .int .u8 7, .int .u8 6] t frozen
      | o => o).modify 1 fun
      | .cells _ t frozen => .cells #[.int .u64 1, .int .u64 10, .int .u64 100, .int .u64 1000, .int .u64 10000, .int .u64 100000, .int .u64 1000000, .int .u64 10000000, .int .u64 100000000, .int .u64 1000000000, .int .u64 10000000000, .int .u64 100000000000, .int .u64 1000000000000, .int .u64 10000000000000, .int .u64 100000000000000, .int .u64 1000000000000000, .int .u64 10000000000000000, .int .u64 100000000000000000, .int .u64 1000000000000000000, .int .u64 10000000000000000000] t frozen
      | o => o) }
theorem laid_met (os : Os) : laidMet Tryz.prog Rows.symbolsValuesRow.laid ((laidWorld os).forCall (fun _ _ => 0) ⟨#[], #[Value.slice none 0 0, .agg #[.string ⟨#[]⟩, .int .i64 0, .string ⟨#[]⟩, .int .i64 0, .int .i64 0]], []⟩).memory :=
  laidMet_of_run' 8 (by kernel_rfl) (by kernel_rfl)
theorem reads (os : Os) {H : Type} (enc : TypeId × Value → H) : ∃ places, DataW.whole enc Tryz.prog ((laidWorld os).forCall (fun _ _ => 0) ⟨#[], #[Value.slice none 0 0, .agg #[.string ⟨#[]⟩, .int .i64 0, .string ⟨#[]⟩, .int .i64 0, .int .i64 0]], []⟩).memory Tryz.f3.params.toList Rows.symbolsValuesSpec.vars false (#[Value.slice none 0 0, .agg #[.string ⟨#[]⟩, .int .i64 0, .string ⟨#[]⟩, .int .i64 0, .int .i64 0]] : Array Value).toList 8 = some ([.nil, .agg [.lit (.string []), .lit (.int .i64 0), .lit (.string []), .lit (.int .i64 0), .lit (.int .i64 0)]], [], places) :=
  ⟨[], by kernel_rfl⟩

set_option maxRecDepth 100000 in
theorem lifted (os : Os) (started : os.Started) (H : Type) (enc : TypeId × Value → H) (F : Stop.Interp) :
    ReturnsInHanded {} Tryz.checked os 3 .any ((OpenSpec.ofChange Rows.symbolsValuesSpec).preRow enc Tryz.prog Tryz.f3 Rows.symbolsValuesRow.domain false Rows.symbolsValuesRow.laid) (((OpenSpec.ofChange Rows.symbolsValuesSpec).at F).post enc Tryz.prog Tryz.f3 false true false false) := by
  obtain ⟨places, hx⟩ := reads os enc
  refine returnsInHanded_of_row (C := Tryz.checked) (s := OpenSpec.ofChange Rows.symbolsValuesSpec) own started (by kernel_rfl) Tryz.func3
    (witness_row_at (enc := enc) (C := Tryz.checked) false (laidWorld os) #[Value.slice none 0 0, .agg #[.string ⟨#[]⟩, .int .i64 0, .string ⟨#[]⟩, .int .i64 0, .int .i64 0]] rfl (by kernel_rfl) (by kernel_rfl) (by kernel_rfl)
      (OpenSpec.preRow_of_cond 8 hx (by kernel_rfl) (fun k hk => by cases hk) (by kernel_rfl) (laid_met os))) ?_
  intro W base args ds gs before hval hW _ _ _ hL _ _
  exact contract H enc W base args ds gs before hval hW hL

theorem said : Rows.SymbolsValuesSaid :=
  OpenClaim.holds_of_cond 3 Tryz.f3 rfl rfl rfl rfl rfl rfl rfl ⟨rfl, rfl, rfl, rfl, rfl⟩ rfl rfl rfl rfl rfl (by kernel_rfl) Tryz.func3 (by kernel_rfl)
    (of_decide_eq_true (by kernel_rfl)) (by unfold Func.isWrapper; first | (rw [if_pos (by decide +kernel)]; kernel_rfl) | (rw [if_neg (by decide +kernel)]; exact ⟨rfl, rfl⟩))
    (fun os started H enc _ F => by rw [OpenClaim.pre_eq_preRow]; exact lifted os started H enc F)

/-- No parameter wants a stand-in; the program's own looks are off. -/
theorem plain (f : FuncId) (fn : Func) (hf : Tryz.pinned.checked.prog.funcNamed "breadboard/breadboardlaw20.SymbolsValues" = some f) (hfn : Tryz.pinned.checked.prog.funcs[f]? = some fn) :
    true = Tryz.pinned.checked.prog.looks [] ∧ ∀ (j : Nat) t, fn.params[j]? = some t → Tryz.pinned.checked.prog.wantsStandIn t = false := by
  obtain rfl : f = 3 := Option.some.inj ((show Tryz.prog.funcNamed "breadboard/breadboardlaw20.SymbolsValues" = some 3 by kernel_rfl).symm.trans hf) |>.symm
  obtain rfl : fn = Tryz.f3 := (Option.some.inj (Tryz.func3.symm.trans hfn)).symm
  refine ⟨by kernel_rfl, fun j t ht => ?_⟩
  rw [Tryz.params3] at ht
  have hm : t ∈ [22, 24] := by simpa using Array.mem_of_getElem? ht
  have hall : ([22, 24].all fun u => !Tryz.prog.wantsStandIn u) = true := by kernel_rfl
  exact (show Tryz.prog.wantsStandIn t = false by simpa using List.all_eq_true.1 hall t hm)

/-- The card. -/
theorem proved : Rows.SymbolsValuesCardSaid :=
  Claim7.holds_tied_plain_at .later [] _ _ _ _ said (fun _ h => by cases h) (by kernel_rfl) (fun _ h => by cases h) symbolsValues_row_tie rfl ⟨rfl, rfl⟩ (by kernel_rfl) rfl plain (by kernel_rfl)
end Go.Proofs.YtnjpfhihbjihbaaGreatDoor.lawSymbolsValues
