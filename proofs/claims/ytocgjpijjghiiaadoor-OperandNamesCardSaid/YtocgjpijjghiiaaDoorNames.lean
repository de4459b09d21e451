/- operand.Names, and the reference's Names. (Written by wip/gen_names.py.) -/
import Derived.Test.YtocgjpijjghiiaaDoorNamesLaw
import Derived.Test.YtocgjpijjghiiaaDoorLists
import Derived.Sort.OwnSorted
import Derived.Lib.RowBridge
namespace Go.Proofs.YtocgjpijjghiiaaDoor
open Go.RowKit Go.Sort

theorem strc_eq (l : List ByteArray) : strc l = (l.map (·.data.toList)).map Proofs.encStr := by
  simp only [strc, List.map_map]
  apply List.map_congr_left
  intro x _
  simp [Proofs.encStr]
theorem strc_nNames : strc nNames = nAll.map Proofs.encStr := by
  simp only [strc, nNames, List.map_map]
  rfl
theorem nNames_len : nNames.length = 28 := by decide +kernel

set_option maxHeartbeats 400000 in
set_option maxRecDepth 100000 in
theorem rnames_any (w : World) :
    Calls Tryd.prog 24 #[] w fun e w' => ∃ v, e = .returned v ∧ Row w' v 28 (strc nNames) ∧ Below w.heap.size w w' := by
  have hat : ∀ j : Fin 28, (#[.string ⟨#[65]⟩, .string ⟨#[65, 70]⟩, .string ⟨#[65, 70, 39]⟩, .string ⟨#[66]⟩, .string ⟨#[66, 67]⟩, .string ⟨#[67]⟩, .string ⟨#[68]⟩, .string ⟨#[68, 69]⟩, .string ⟨#[69]⟩, .string ⟨#[72]⟩, .string ⟨#[72, 76]⟩, .string ⟨#[73]⟩, .string ⟨#[73, 88]⟩, .string ⟨#[73, 88, 72]⟩, .string ⟨#[73, 88, 76]⟩, .string ⟨#[73, 89]⟩, .string ⟨#[73, 89, 72]⟩, .string ⟨#[73, 89, 76]⟩, .string ⟨#[76]⟩, .string ⟨#[77]⟩, .string ⟨#[78, 67]⟩, .string ⟨#[78, 90]⟩, .string ⟨#[80]⟩, .string ⟨#[80, 69]⟩, .string ⟨#[80, 79]⟩, .string ⟨#[82]⟩, .string ⟨#[83, 80]⟩, .string ⟨#[90]⟩] : Array Value)[j.val]? = (strc nNames)[j.val]? := by
    have : (#[.string ⟨#[65]⟩, .string ⟨#[65, 70]⟩, .string ⟨#[65, 70, 39]⟩, .string ⟨#[66]⟩, .string ⟨#[66, 67]⟩, .string ⟨#[67]⟩, .string ⟨#[68]⟩, .string ⟨#[68, 69]⟩, .string ⟨#[69]⟩, .string ⟨#[72]⟩, .string ⟨#[72, 76]⟩, .string ⟨#[73]⟩, .string ⟨#[73, 88]⟩, .string ⟨#[73, 88, 72]⟩, .string ⟨#[73, 88, 76]⟩, .string ⟨#[73, 89]⟩, .string ⟨#[73, 89, 72]⟩, .string ⟨#[73, 89, 76]⟩, .string ⟨#[76]⟩, .string ⟨#[77]⟩, .string ⟨#[78, 67]⟩, .string ⟨#[78, 90]⟩, .string ⟨#[80]⟩, .string ⟨#[80, 69]⟩, .string ⟨#[80, 79]⟩, .string ⟨#[82]⟩, .string ⟨#[83, 80]⟩, .string ⟨#[90]⟩] : Array Value).toList = strc nNames := by rfl
    intro j
    rw [← this, Array.getElem?_toList]
  have HAT := Lib.hid hat; clear hat
  go_enter Tryd.func24, Tryd.ntmps24
  go_wp2_with fail
  go_ret
  refine ⟨_, rfl, ⟨_, _, rfl, by decide, fun _ => ⟨_, 0, rfl, by simp [go_sem], fun j hj => ?_⟩⟩, by (repeat (first | exact Below.refl _ _ | refine Below.drew ?_ | (refine below_gw' ?_ (by first | omega | (simp [go_sem]; done) | (simp [go_sem]; omega)) _) | (refine Below.alloc ?_ (by first | omega | (simp [go_sem]; done) | (simp [go_sem]; omega)) _) | (refine Below.setCell ?_ (by first | omega | (simp [go_sem]; done) | (simp [go_sem]; omega)) _)))⟩
  rw [strc_len, nNames_len] at hj
  refine Eq.trans ?_ (HAT.out ⟨j, hj⟩)
  simp [go_sem]

set_option maxHeartbeats 400000 in
theorem names1 (s : ByteArray) (w : World) :
    Calls Tryd.prog 37 #[.string s] w fun e w' => e = .returned (.bool true) ∧ w = w' := by
  go_enter Tryd.func37, Tryd.ntmps37
  go_wp2
  go_ret
  exact ⟨rfl, rfl⟩

set_option maxHeartbeats 1000000 in
set_option maxRecDepth 100000 in
theorem names_any (w : World) (hT : Tabs w) :
    Calls Tryd.prog 23 #[] w fun e w' => ∃ v, e = .returned v ∧ Row w' v 28 (strc nNames) ∧ Below w.heap.size w w' := by
  obtain ⟨i0, hi, hz0, hz1, hz2⟩ := info_parts Tryd.infoString
  obtain ⟨B, hB⟩ : ∃ B, w.heap.size = B := ⟨_, rfl⟩
  have HT := Lib.hid hT; clear hT
  have HB := Lib.hid hB; clear hB
  go_enter Tryd.func23, Tryd.ntmps23
  go_wp2_with fail
  refine (words_any (fun _ => true) 37 #[] _ (enters_of Tryd.func37 (by kernel_rfl) rfl) (fun x W _ => names1 x W)).mono ?_
  rintro e w1 ⟨v, rfl, hown, hb⟩
  have hrow := Row.of_owns hown
  clear hown
  rw [opCells_opc, show (wlist (fun _ => true) 5).length = nOps.length by unfold nOps; rw [List.length_map]] at hrow
  change Row w1 v nOps.length (opc nOps) at hrow
  obtain ⟨a1, c1, rfl, hc1, h1⟩ := hrow.op
  clear hrow
  rw [nOps_len] at hc1 ⊢
  obtain ⟨g, o, rfl, hg, hc⟩ := h1 (by intro e; have := nOps_len; rw [e] at this; cases this)
  clear h1
  have HC := Lib.hid hc; clear hc
  have HB1 := Lib.hid hb; clear hb
  go_wp2_with fail
  go_loopw [1, 6] (fun v i wr => ∃ j : Nat, j ≤ 29 ∧ i = .int .i64 j ∧ wr.ownsRow w1.heap.size 9 1 v j (strc (texts (nOps.take j))) ∧ Below w1.heap.size w1 wr) (fun _ i _ => 29 - (intOf i).toNat)
  case atStart => exact ⟨0, Nat.zero_le _, rfl, World.ownsRow_nil _ _ _ _, Below.refl _ _⟩
  case round =>
    obtain ⟨j, hj, rfl, hown, hbel⟩ := hrel
    have HOWN := Lib.hid hown; clear hown
    have HBEL := Lib.hid hbel; clear hbel
    have hsz : w1.heap.size ≤ wr.heap.size := HBEL.out.size
    by_cases hlt : j < 29
    · obtain ⟨⟨x0, x1, x2⟩, hx⟩ : ∃ x, nOps[j]? = some x := ⟨_, List.getElem?_eq_getElem (by rw [nOps_len]; exact hlt)⟩
      obtain ⟨cx0, cx1, cx2⟩ := HC.out j _ hx
      rw [← HBEL.out.cell (p := ⟨_, _, none⟩) hg] at cx0 cx1 cx2
      have Hx := Lib.hid hx; clear hx
      have hi0 : (0 : Int) ≤ (j : Int) := by omega
      have hi1 : (j : Int) < 29 := by omega
      go_wp2_with fail
      refine (text_any x0 x1 x2 _ (((HT.out.below HB1.out).below HBEL.out).below (by (repeat (first | exact Below.refl _ _ | refine Below.drew ?_ | (refine below_gw' ?_ (by first | omega | (simp [go_sem]; done) | (simp [go_sem]; omega)) _) | (refine Below.alloc ?_ (by first | omega | (simp [go_sem]; done) | (simp [go_sem]; omega)) _) | (refine Below.setCell ?_ (by first | omega | (simp [go_sem]; done) | (simp [go_sem]; omega)) _)))))).mono ?_
      rintro e w2 ⟨rfl, hb⟩
      obtain ⟨p1, rfl⟩ := gw_of_below hb
      clear hb
      go_wp2_with (at_builtin; refine wpList_append_own _ rfl _ _ 38 rfl w1.heap.size 9 i0 (.string ⟨#[]⟩) 1 16 Tryd.underlying38 hi hz0 hz1 hz2 rfl (by decide) _ _ _ rfl (owns_below' HOWN.out (by (repeat (first | exact Below.refl _ _ | refine Below.drew ?_ | (refine below_gw' ?_ (by first | omega | (simp [go_sem]; done) | (simp [go_sem]; omega)) _) | (refine Below.alloc ?_ (by first | omega | (simp [go_sem]; done) | (simp [go_sem]; omega)) _) | (refine Below.setCell ?_ (by first | omega | (simp [go_sem]; done) | (simp [go_sem]; omega)) _))))) _ 1 1 [.string (opText x0 x1 x2)] rfl rfl ?c1 ?c2 ?c3 ?c4 ?c5 ?_)
      try case c1 =>
        intro q u hq
        rw [addr_add]
        match q, hq with
        | 0, hq => simp at hq; subst hq; simp [go_sem]
      case c2 => first | (intro u hu; simp at hu; subst hu; rfl) | rfl
      case c3 => unfold maxLen; omega
      case c4 => omega
      case c5 => simp [go_sem]; omega
      intro v' w3 hown' hgrow _
      have hb' : Below w1.heap.size w1 w3 := (HBEL.out.trans (Below.mono (show Below wr.heap.size wr _ by (repeat (first | exact Below.refl _ _ | refine Below.drew ?_ | (refine below_gw' ?_ (by first | omega | (simp [go_sem]; done) | (simp [go_sem]; omega)) _) | (refine Below.alloc ?_ (by first | omega | (simp [go_sem]; done) | (simp [go_sem]; omega)) _) | (refine Below.setCell ?_ (by first | omega | (simp [go_sem]; done) | (simp [go_sem]; omega)) _)))) hsz)).grown hgrow (by simp [go_sem]; omega) (by
        intro q hq
        have := HOWN.out.2
        rcases this with ⟨h, _⟩ | ⟨g, cap, cur, h, hg, _⟩
        · rw [h] at hq; cases hq
        · rw [h] at hq; cases hq; exact hg)
      have HOWN3 := Lib.hid hown'; clear hown'
      have HB' := Lib.hid hb'; clear hb' hgrow
      go_wp2_with fail
      go_roundw
      case rel => exact ⟨j + 1, by omega, by go_num, by rw [texts_succ nOps j _ Hx.out, strc_append]; exact HOWN3.out, HB'.out⟩
      case measure => simp [intOf]; omega
    · obtain rfl : j = 29 := by omega
      have hown := HOWN.out
      rw [List.take_of_length_le (by rw [nOps_len]; exact Nat.le_refl _), strc_eq] at hown
      change wr.ownsRow w1.heap.size 9 1 _ 29 (nTexts.map Proofs.encStr) at hown
      rcases hown.2 with ⟨_, h0⟩ | ⟨g2, cap, cur, rfl, hg2, hb2, hn2, hcap, hcur, htk⟩
      · cases h0
      have hg2w : g2 < wr.heap.size := (Array.getElem?_eq_some_iff.1 hb2).1
      have hsort := Tryd.slices_Sort_string g2 0 cap nTexts wr (holds_of_block hb2 (by rw [nTexts_len]; simpa using htk)) hg2w (by rw [nTexts_len]; decide)
      rw [nTexts_len, nSort] at hsort
      have HSORT := Lib.hid hsort; clear hsort
      have HTK := Lib.hid htk; clear htk
      have HB2 := Lib.hid hb2; clear hb2
      clear hown
      go_wp2_with fail
      refine HSORT.out.mono ?_
      rintro e w2 ⟨rfl, n, os, hw2⟩
      have hown2 : w2.ownsRow w1.heap.size 9 1 (.slice (some ⟨g2, 0, none⟩) 29 cap) 29 (nSorted.map Proofs.encStr) := by
        rw [hw2]
        have := ownsRow_sorted (n := n) (os := os) (ss := nTexts) (ts := nSorted) (by rw [nTexts_len]; rfl) hg2 HB2.out (by rw [nTexts_len]; exact hn2) hcap hcur
        rw [nTexts_len] at this
        exact this
      have hbel2 : Below w1.heap.size w1 w2 := HBEL.out.grown (by rw [hw2]; exact grownBy_sorted _) hsz (by intro q hq; cases hq; exact hg2)
      clear hw2
      rcases hown2.2 with ⟨_, h0⟩ | ⟨g3, cap3, cur3, hv3, hg3, hb3, hn3, hcap3, hcur3, htk3⟩
      · cases h0
      cases hv3
      have hcomp := Tryd.slices_Compact_string g2 0 cap nSorted w2 (holds_of_block hb3 (by have h := htk3; rw [Nat.mul_one] at h; exact h)) (by decide) hn3
      rw [nCompact] at hcomp
      have HCOMP := Lib.hid hcomp; clear hcomp
      have HB3 := Lib.hid hb3; clear hb3
      have HBEL2 := Lib.hid hbel2; clear hbel2
      clear htk3 hown2
      go_wp2_with fail
      refine HCOMP.out.mono ?_
      rintro e w3 ⟨rfl, q, hw3⟩
      have hw3' : w3 = grow (putRow Proofs.encStr (Sort.ahead w2 q) g2 0 (nAll ++ [[]]).toArray) #[] := by rw [hw3, grow_empty]; rfl
      have hown3 : w3.ownsRow w1.heap.size 9 1 (.slice (some ⟨g2, 0, none⟩) 29 cap) 29 ((nAll ++ [[]]).map Proofs.encStr) := by
        rw [hw3']
        exact ownsRow_sorted (n := q) (os := #[]) (ss := nSorted) (ts := nAll ++ [[]]) rfl hg2 HB3.out hn3 hcap3 hcur3
      have hbel3 : Below w1.heap.size w1 w3 := HBEL2.out.grown (by rw [hw3']; exact grownBy_sorted _) HBEL2.out.size (by intro q hq; cases hq; exact hg2)
      clear hw3 hw3'
      obtain ⟨a4, c4, hv4, hc4, hr4⟩ := Row.of_owns hown3
      cases hv4
      obtain ⟨g5, o5, he5, hg5, hcs⟩ := hr4 (by intro e; cases e)
      cases he5
      have HCS := Lib.hid hcs; clear hcs hr4 hown3
      have HBEL3 := Lib.hid hbel3; clear hbel3
      go_wp2_with fail
      go_ret
      refine ⟨_, rfl, ⟨_, _, rfl, by omega, fun _ => ⟨g2, 0, rfl, hg5, fun j hj => ?_⟩⟩, ?_⟩
      · rw [strc_len, nNames_len] at hj
        rw [HCS.out j (by show j < 29; omega), strc_nNames, List.map_append, List.getElem?_append_left (by show j < 28; exact hj)]
      · exact HB1.out.trans (HBEL3.out.mono HB1.out.size)
end Go.Proofs.YtocgjpijjghiiaaDoor

