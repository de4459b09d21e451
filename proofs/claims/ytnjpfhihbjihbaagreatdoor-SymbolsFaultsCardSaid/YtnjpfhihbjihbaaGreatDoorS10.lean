/- Joined texts: NamesW, ParsO. -/
import Derived.Test.YtnjpfhihbjihbaaGreatDoorS09
import Derived.Deep.CutRange
import Derived.Deep.DrawnRows
import Derived.Deep.RegionHeld3
/- expr.Names walked. (Written by wip/gen_namesw.py.) -/
namespace Go.Proofs.YtnjpfhihbjihbaaGreatDoor
open Go.RowKit Go.Sort

attribute [local go_sem ↓] Go.wp_at_zero Go.wp_at_succ
def NamesRes (l : List (Option Ex)) (w : World) (e : Ending) (w' : World) : Prop :=
  ∃ v, e = .returned v ∧ Row w' v (uniq (lSyms l)).length ((uniq (lSyms l)).map Proofs.encStr) ∧ (uniq (lSyms l) = [] → v = .slice none 0 0) ∧ Below w.heap.size w w'
theorem lNodes_take : ∀ (l : List (Option Ex)) (k : Nat), lNodes (l.take k) ≤ lNodes l
  | [], k => by simp
  | o :: l, 0 => by simp [lNodes]
  | o :: l, k + 1 => by have := lNodes_take l k; simp only [List.take_succ_cons, lNodes]; omega
theorem lNodes_append : ∀ (l m : List (Option Ex)), lNodes (l ++ m) = lNodes l + lNodes m
  | [], m => by simp [lNodes]
  | o :: l, m => by have := lNodes_append l m; simp only [List.cons_append, lNodes]; omega
theorem take_snoc {α : Type} (l : List α) (k : Nat) (x : α) (h : l[k]? = some x) : l.take (k + 1) = l.take k ++ [x] := by
  rw [List.take_add_one, h]; rfl
theorem OptAt.ptr {T : TypeId} {w : World} {o : Option Ex} {v : Value} (h : OptAt T w o v) : ∃ p, v = .pointer p := by
  cases o with
  | none => exact ⟨none, h⟩
  | some x => obtain ⟨g, hv, _⟩ := NodeAt.ptr h; exact ⟨_, hv⟩
theorem enc_one (U : List (List UInt8)) : ∀ u ∈ U.map Proofs.encStr, u.oneCell' = true := by
  intro u hu
  obtain ⟨x, _, rfl⟩ := List.mem_map.1 hu
  rfl
theorem src_of_row {w : World} {v : Value} {U : List (List UInt8)} (h : Row w v U.length (U.map Proofs.encStr)) (hn : U = [] → v = .slice none 0 0) : SrcAt w v U.length (U.map Proofs.encStr) := by
  by_cases hU : U = []
  · left; exact ⟨by rw [hU]; rfl, hn hU⟩
  · right
    obtain ⟨a, cap, hv, _, hr⟩ := h
    obtain ⟨g, o, ha, hg, hc⟩ := hr (by intro e; exact hU (List.map_eq_nil_iff.1 e))
    refine ⟨⟨g, o, none⟩, cap, by rw [hv, ha], fun j u hj => ?_⟩
    rw [addr_add]
    have hlt : j < (U.map Proofs.encStr).length := (List.getElem?_eq_some_iff.1 hj).1
    rw [hc j hlt]; exact hj
theorem own_ge {w : World} {base n : Nat} {T : TypeId} {v : Value} {xs : List Value} (h : w.ownsRow base T 1 v n xs) : ∀ q, v.ownBlock = some q → base ≤ q := by
  intro q hq
  rcases h.2 with ⟨h, _⟩ | ⟨g, cap, cur, h, hg, _⟩
  · rw [h] at hq; cases hq
  · rw [h] at hq; cases hq; exact hg
theorem compact_sorted (base : Nat) {v : Value} {L : List (List UInt8)} {w : World} (hown : w.ownsRow base 9 1 v L.length ((L.mergeSort fun x y => decide (x ≤ y)).map Proofs.encStr)) (hnil : L = [] → v = .slice none 0 0) (hlen : L.length ≤ 1000000) (hb : base ≤ w.heap.size) :
    Calls Tryz.prog 73 #[v] w fun e w' => ∃ v', e = .returned v' ∧ Row w' v' (uniq L).length ((uniq L).map Proofs.encStr) ∧ (uniq L = [] → v' = .slice none 0 0) ∧ Below base w w' :=
  compact_any base v (L.mergeSort fun x y => decide (x ≤ y)) w (by rw [List.length_mergeSort]; exact hown) (fun h => hnil (by have := congrArg List.length h; rw [List.length_mergeSort] at this; exact List.eq_nil_of_length_eq_zero this)) (by rw [List.length_mergeSort]; exact hlen) hb
theorem alloc_lt (w : World) (o : Obj) : w.heap.size < (w.alloc o).heap.size := by show _ < (w.heap.push o).size; simp
theorem enc_append (a b : List (List UInt8)) : (a ++ b).map Proofs.encStr = a.map Proofs.encStr ++ b.map Proofs.encStr := List.map_append

set_option maxHeartbeats 8000000 in
set_option maxRecDepth 100000 in
theorem names_any : ∀ (n : Nat) (l : List (Option Ex)), lNodes l ≤ n → n ≤ 1000000 → l.length ≤ 1000000 → ∀ (v : Value) (w : World), ArgsAt 130 w l v → Calls Tryz.prog 47 #[v] w (NamesRes l w)
  | n, l, hn, hn6, hl6, v, w, hA => by
    obtain ⟨i0, hi, hz0, hz1, hz2⟩ := info_parts Tryz.infoString
    have ih : ∀ l' : List (Option Ex), lNodes l' < lNodes l → l'.length ≤ 1000000 → ∀ (v : Value) (w : World), ArgsAt 130 w l' v → Calls Tryz.prog 47 #[v] w (NamesRes l' w) := fun l' h h2 v w hA => names_any (lNodes l') l' (Nat.le_refl _) (by omega) h2 v w hA
    obtain ⟨ag, ao, acap, rfl, hag, hac⟩ := hA
    have HIH := Lib.hid ih; clear ih
    have HAC := Lib.hid hac; clear hac
    go_enter Tryz.func47, Tryz.ntmps47
    go_wp2_with fail
    go_loopw [3, 5, 8] (fun v _ i wr => ∃ (k : Nat) (acc : List (List UInt8)), k ≤ l.length ∧ i = .int .i64 k ∧ wr.ownsRow w.heap.size 9 1 v acc.length (acc.map Proofs.encStr) ∧ (acc = [] → v = .slice none 0 0) ∧ Below w.heap.size w wr ∧ Hid (∀ y, y ∈ acc ↔ y ∈ lSyms (l.take k)) ∧ acc.length ≤ lNodes (l.take k)) (fun _ _ i _ => l.length - (intOf i).toNat)
    case atStart => exact ⟨0, [], Nat.zero_le _, rfl, World.ownsRow_nil _ _ _ _, fun _ => rfl, Below.refl _ _, Lib.hid (fun y => by simp [lSyms]), by simp [lNodes]⟩
    case round =>
      obtain ⟨k, acc, hk, rfl, hown, hnil, hbel, HM, hacn⟩ := hrel
      have hacc6 : acc.length ≤ 1000000 := by have := lNodes_take l k; omega
      have hsz : w.heap.size ≤ wr.heap.size := hbel.size
      have HOWN := Lib.hid hown; clear hown
      have HBEL := Lib.hid hbel; clear hbel
      have HNIL := Lib.hid hnil; clear hnil
      by_cases hlt : k < l.length
      · obtain ⟨x, hx⟩ : ∃ x, l[k]? = some x := ⟨l[k], by simp [hlt]⟩
        have hk0 : (0 : Int) ≤ (k : Int) := by omega
        have hk1 : (k : Int) < (l.length : Int) := by omega
        obtain ⟨u, hu, hou⟩ := HAC.out k x hx
        have hcu : wr.cell? ⟨ag, ao + k, none⟩ = some u := (HBEL.out.cell (p := ⟨ag, ao + k, none⟩) hag).trans hu
        have hagr : ag < wr.heap.size := by omega
        have hts := take_snoc l k x hx
        have hxn : lNodes (l.take k) + oNodes x ≤ lNodes l := by
          have h1 := lNodes_take l (k + 1)
          rw [hts, lNodes_append] at h1
          simp only [lNodes] at h1
          omega
        have hsy : lSyms (l.take (k + 1)) = lSyms (l.take k) ++ oSyms x := by rw [hts]; simp [lSyms]
        have hno : lNodes (l.take (k + 1)) = lNodes (l.take k) + oNodes x := by rw [hts, lNodes_append]; simp [lNodes]
        clear hts hx
        have HSY := Lib.hid hsy; clear hsy
        have HNO := Lib.hid hno; clear hno
        rcases x with _ | x
        · obtain rfl : u = .pointer none := hou
          clear hu
          go_wp2_with fail
          go_roundw
          case rel => exact ⟨k + 1, acc, by omega, by go_num, HOWN.out, HNIL.out, HBEL.out, Lib.hid (fun y => by rw [HSY.out]; simpa [oSyms] using HM.out y), by rw [HNO.out]; omega⟩
          case measure => simp [intOf]; omega
        · have hnode : NodeAt 130 0 w x u := hou
          obtain ⟨g, kk, nn, s, a, b, rfl, hg, e0, e1, e2, e3, e4, hown2, oa, ob, hkids, hoa, hob⟩ := hnode.cells
          clear hnode hou hu
          obtain ⟨pa, rfl⟩ := hoa.ptr
          obtain ⟨pb, rfl⟩ := hob.ptr
          have hkn := kids_nodes x
          have hok := own_kids x
          have hihk := HIH.out x.kids (by simp only [oNodes] at hxn; omega) (by rw [hkids]; simp)
          have hkl : lNodes x.kids ≤ 1000000 := by simp only [oNodes] at hxn; omega
          obtain ⟨U, hU⟩ : ∃ U, uniq (lSyms x.kids) = U := ⟨_, rfl⟩
          have hmem : ∀ y, y ∈ U ↔ y ∈ lSyms x.kids := fun y => by rw [← hU, mem_uniq]
          have hul := uniq_len (lSyms x.kids)
          have hsl := lSyms_len x.kids
          unfold NamesRes at hihk
          rw [hU] at hihk hul
          clear hU
          have f0 := (HBEL.out.cell (p := ⟨g, 0, none⟩) hg).trans e0
          have f2 := (HBEL.out.cell (p := ⟨g, 2, none⟩) hg).trans e2
          have hgr : g < wr.heap.size := by omega
          have HMEM := Lib.hid hmem; clear hmem
          have HIHK := Lib.hid hihk; clear hihk
          have HKIDS := Lib.hid hkids; clear hkids
          have HOK := Lib.hid hok; clear hok
          have HOA := Lib.hid hoa; clear hoa
          have HOB := Lib.hid hob; clear hob
          have E3 := Lib.hid e3; clear e3
          have E4 := Lib.hid e4; clear e4
          clear e0 e1 e2
          go_upto_if 18 with fail
          go_cut [3] from 9 to 38 (fun v3 wx => wx.ownsRow w.heap.size 9 1 v3 (acc ++ x.own).length ((acc ++ x.own).map Proofs.encStr) ∧ (acc ++ x.own = [] → v3 = .slice none 0 0) ∧ Below w.heap.size w wx)
          case first =>
            rcases hown2 with ⟨hk2, hown2⟩ | ⟨hk2, hown2⟩
            · have HO2 := Lib.hid hown2; clear hown2
              go_wp2_with (at_builtin; refine wpList_append_own _ rfl _ _ 45 rfl w.heap.size 9 i0 (.string ⟨#[]⟩) 1 16 Tryz.underlying45 hi hz0 hz1 hz2 rfl (by decide) _ _ _ rfl (owns_below' HOWN.out (by (repeat (first | exact Below.refl _ _ | refine Below.drew ?_ | (refine below_gw' ?_ (by first | omega | (simp [go_sem]; done) | (simp [go_sem]; omega)) _) | (refine Below.alloc ?_ (by first | omega | (simp [go_sem]; done) | (simp [go_sem]; omega)) _) | (refine Below.setCell ?_ (by first | omega | (simp [go_sem]; done) | (simp [go_sem]; omega)) _))))) _ 1 1 [.string s] rfl rfl ?c1 ?c2 ?c3 ?c4 ?c5 ?_)
              case c1 =>
                intro q u hq
                rw [addr_add]
                match q, hq with
                | 0, hq => simp at hq; subst hq; simp [go_sem]
              case c2 => first | exact ⟨rfl, rfl⟩ | (intro u hu; simp at hu; subst hu; rfl) | rfl
              case c3 => unfold maxLen; omega
              case c4 => omega
              case c5 => (first | omega | (simp [go_sem]; done) | (simp [go_sem]; omega))
              intro v' w1 hown' hgrow hiff'
              have hb' : Below w.heap.size w w1 := (HBEL.out.trans (Below.mono (show Below wr.heap.size wr _ by (repeat (first | exact Below.refl _ _ | refine Below.drew ?_ | (refine below_gw' ?_ (by first | omega | (simp [go_sem]; done) | (simp [go_sem]; omega)) _) | (refine Below.alloc ?_ (by first | omega | (simp [go_sem]; done) | (simp [go_sem]; omega)) _) | (refine Below.setCell ?_ (by first | omega | (simp [go_sem]; done) | (simp [go_sem]; omega)) _)))) hsz)).grown hgrow (by simp [go_sem]; omega) (by
                intro q hq
                have := HOWN.out.2
                rcases this with ⟨h, _⟩ | ⟨g, cap, cur, h, hg, _⟩
                · rw [h] at hq; cases hq
                · rw [h] at hq; cases hq; exact hg)
              have HOWN3 := Lib.hid hown'; clear hown' hgrow
              have HIFF3 := Lib.hid hiff'; clear hiff'
              have HB' := Lib.hid hb'; clear hb'
              go_wp2_with fail
              go_meet
              case rel => exact ⟨by rw [HO2.out, enc_append, List.length_append]; exact HOWN3.out, fun h => by simp [HO2.out] at h, HB'.out⟩
            · have HO2 := Lib.hid hown2; clear hown2
              go_wp2_with fail
              go_meet
              case rel => exact ⟨by rw [HO2.out, List.append_nil]; exact HOWN.out, by rw [HO2.out, List.append_nil]; exact HNIL.out, HBEL.out⟩
          case rest =>
            obtain ⟨hown3, hnil3, hb3⟩ := hcut
            have hol : x.own.length ≤ 1 := by rcases hown2 with ⟨_, h⟩ | ⟨_, h⟩ <;> rw [h] <;> simp
            have hnn : acc.length + x.own.length + lNodes x.kids ≤ lNodes l := by
              have h1 : x.own.length + lNodes x.kids ≤ x.nodes := by omega
              simp only [oNodes] at hxn
              omega
            clear f0 f2 hown2
            have g3 := (hb3.cell (p := ⟨g, 3, none⟩) hg).trans E3.out
            have g4 := (hb3.cell (p := ⟨g, 4, none⟩) hg).trans E4.out
            have hgc : g < wc.heap.size := Nat.lt_of_lt_of_le hg hb3.size
            have hszc := hb3.size
            have hoa2 := HOA.out.below hb3
            have hob2 := HOB.out.below hb3
            have HOA2 := Lib.hid hoa2; clear hoa2
            have HOB2 := Lib.hid hob2; clear hob2
            have hlen3 : (acc ++ x.own).length ≤ 1000000 := by rw [List.length_append]; omega
            have HOWNC := Lib.hid hown3; clear hown3
            have HNIL2 := Lib.hid hnil3; clear hnil3
            have HBELC := Lib.hid hb3; clear hb3
            clear hsz hagr hgr hcu

            have hargs : ArgsAt 130 (wc.alloc (.cells #[.pointer pa, .pointer pb] 38)).drew x.kids (.slice (some ⟨wc.heap.size, 0, none⟩) 2 2) := by
              rw [HKIDS.out]
              refine ⟨_, 0, 2, rfl, alloc_lt _ _, fun j x hx => ?_⟩
              match j, hx with
              | 0, hx => simp at hx; subst hx; exact ⟨.pointer pa, by simp [go_sem], OptAt.below HOA2.out (by (repeat (first | exact Below.refl _ _ | refine Below.drew ?_ | (refine below_gw' ?_ (by first | omega | (simp [go_sem]; done) | (simp [go_sem]; omega)) _) | (refine Below.alloc ?_ (by first | omega | (simp [go_sem]; done) | (simp [go_sem]; omega)) _) | (refine Below.setCell ?_ (by first | omega | (simp [go_sem]; done) | (simp [go_sem]; omega)) _))))⟩
              | 1, hx => simp at hx; subst hx; exact ⟨.pointer pb, by simp [go_sem], OptAt.below HOB2.out (by (repeat (first | exact Below.refl _ _ | refine Below.drew ?_ | (refine below_gw' ?_ (by first | omega | (simp [go_sem]; done) | (simp [go_sem]; omega)) _) | (refine Below.alloc ?_ (by first | omega | (simp [go_sem]; done) | (simp [go_sem]; omega)) _) | (refine Below.setCell ?_ (by first | omega | (simp [go_sem]; done) | (simp [go_sem]; omega)) _))))⟩
            have hcall := HIHK.out _ _ hargs
            have HCALL := Lib.hid hcall; clear hcall hargs
            have hbk : ∀ w4, Below (wc.alloc (.cells #[.pointer pa, .pointer pb] 38)).drew.heap.size (wc.alloc (.cells #[.pointer pa, .pointer pb] 38)).drew w4 → Below wc.heap.size wc w4 := fun w4 h => Below.trans (b := (wc.alloc (.cells #[.pointer pa, .pointer pb] 38)).drew) (by (repeat (first | exact Below.refl _ _ | refine Below.drew ?_ | (refine below_gw' ?_ (by first | omega | (simp [go_sem]; done) | (simp [go_sem]; omega)) _) | (refine Below.alloc ?_ (by first | omega | (simp [go_sem]; done) | (simp [go_sem]; omega)) _) | (refine Below.setCell ?_ (by first | omega | (simp [go_sem]; done) | (simp [go_sem]; omega)) _)))) (h.mono (by (first | omega | (simp [go_sem]; done) | (simp [go_sem]; omega))))
            have HBK := Lib.hid hbk; clear hbk
            go_wp2_with fail
            go_region_held3 (fun w' => w'.cell? ⟨g, 3, none⟩ = some (.pointer pa) ∧ w'.cell? ⟨g, 4, none⟩ = some (.pointer pb)) (first | exact ⟨(hb5.cell (p := ⟨g, 3, none⟩) hg).trans E3.out, (hb5.cell (p := ⟨g, 4, none⟩) hg).trans E4.out⟩ | exact ⟨((HBK.out _ hb4).cell (p := ⟨g, 3, none⟩) hgc).trans g3, ((HBK.out _ hb4).cell (p := ⟨g, 4, none⟩) hgc).trans g4⟩ | exact ⟨g3, g4⟩ | (refine ⟨?_, ?_⟩ <;> simp [g3, g4, hgc, go_sem])) (first | (refine step_append_src (by rfl) _ _ 45 (by rfl) w.heap.size 9 i0 (.string ⟨#[]⟩) 1 16 Tryz.underlying45 hi hz0 hz1 hz2 rfl (by decide) _ _ _ (by rfl) (owns_below' HOWNC.out (HBK.out _ hb4)) v4 _ _ (by rfl) (src_of_row hrow4 hnil4) (by rw [List.length_map, Nat.mul_one]) (enc_one _) (by unfold maxLen; omega) (by omega) (Nat.le_trans (by omega) (HBK.out _ hb4).size) ?_; intro v5 w5 hown5 hgrow5 hiff5; have hb5 : Below w.heap.size w w5 := (HBELC.out.trans ((HBK.out _ hb4).mono (by omega))).grown hgrow5 (Nat.le_trans (by omega) (HBK.out _ hb4).size) (own_ge HOWNC.out)) | (go_simp; refine HCALL.out.mono ?_; rintro e w4 ⟨v4, rfl, hrow4, hnil4, hb4⟩))
            all_goals
              have HOWN5 := Lib.hid hown5; clear hown5 hgrow5
              have HB5 := Lib.hid hb5; clear hb5 hb4 hrow4
              have HIFF := Lib.hid hiff5; clear hiff5
              clear hnil4
              go_wp2_with fail
              go_roundw
              case rel => exact ⟨k + 1, (acc ++ x.own) ++ U, by omega, by go_num, by rw [enc_append, List.length_append]; exact HOWN5.out, fun h => HIFF.out.2 ⟨HNIL2.out (List.append_eq_nil_iff.1 h).1, by rw [(List.append_eq_nil_iff.1 h).2]; rfl⟩, HB5.out, Lib.hid (fun y => by rw [HSY.out, HOK.out, List.mem_append, List.mem_append, List.mem_append, HM.out y, HMEM.out y]; simp [or_assoc]), by rw [List.length_append, List.length_append, HNO.out]; simp only [oNodes]; omega⟩
              case measure => simp [intOf]; omega
      · obtain rfl : k = l.length := by omega
        have hun := uniq_ext (l := acc) (m := lSyms l) (fun y => by rw [HM.out, List.take_length])
        have hacl : acc.length ≤ 1000000 := hacc6
        have hul := uniq_len (lSyms l)
        have HUN := Lib.hid hun; clear hun
        have hca : ∀ wx, Below wr.heap.size wr wx → True := fun _ _ => trivial
        clear hca
        have hsort := sort_any w.heap.size _ acc wr HOWN.out HNIL.out hacl hsz
        have HSORT := Lib.hid hsort; clear hsort
        go_wp2_with fail
        refine HSORT.out.mono ?_
        rintro e w1 ⟨rfl, hown1, hb1⟩
        have hcmp := compact_sorted w.heap.size hown1 HNIL.out hacl (Nat.le_trans hsz hb1.size)
        have HCMP := Lib.hid hcmp; clear hcmp
        have HB1 := Lib.hid hb1; clear hb1 hown1
        go_wp2_with fail
        refine HCMP.out.mono ?_
        rintro e w2 ⟨v', rfl, hrow, hnil2, hb2⟩
        have HB2 := Lib.hid (HBEL.out.trans (HB1.out.trans (hb2))); clear hb2
        have HROW := Lib.hid hrow; clear hrow
        have HNIL3 := Lib.hid hnil2; clear hnil2
        go_wp2_with fail
        go_ret
        exact ⟨_, rfl, by rw [← HUN.out]; exact HROW.out, by rw [← HUN.out]; exact HNIL3.out, HB2.out⟩
  termination_by _ l => lNodes l
end Go.Proofs.YtnjpfhihbjihbaaGreatDoor

/- The parser's operands. (Written by wip/gen_operand.py.) -/
namespace Go.Proofs.YtnjpfhihbjihbaaGreatDoor
open Go.RowKit Go.Sort

theorem alloc2_at (w : World) (X Y : Obj) : ((w.alloc X).alloc Y).heap[w.heap.size + 1]? = some Y := by
  show ((w.heap.push X).push Y)[w.heap.size + 1]? = some Y
  rw [Array.getElem?_push, if_pos (by simp)]
theorem emptyB (s : ByteArray) (h : s.toList = []) : s = ⟨#[]⟩ := by
  rw [ByteArray.toList_eq] at h
  apply ByteArray.ext
  apply Array.ext'
  rw [h]

set_option maxHeartbeats 8000000 in
set_option maxRecDepth 100000 in
theorem operand_step (l : List Tok) (ih : ∀ l' : List Tok, l'.length < l.length → BC l') : OC l := by
  intro b w hs hS hU
  rcases l with _ | ⟨t, l⟩
  · have hb : b < w.heap.size := hS.lt
    have hsg := fun w hS => psign_any [] b w hS hs
    have HSG := Lib.hid hsg; clear hsg ih hU
    have HS := Lib.hid hS; clear hS
    go_enter Tryz.func154, Tryz.ntmps154
    go_wp2_with fail
    refine (HSG.out _ HS.out).mono ?_
    rintro e w1 ⟨rfl, hb1⟩
    obtain ⟨p1, rfl⟩ := gw_of_below hb1
    clear hb1
    go_wp2_with fail
    refine (take_none b _ (HS.out.gw _)).mono ?_
    rintro e w2 ⟨rfl, hb2⟩
    obtain ⟨p2, rfl⟩ := gw_of_below hb2
    clear hb2
    go_wp2_with fail
    refine ⟨rfl, ?_⟩
    exact ⟨none, .nil, by (with_reducible repeat (first | refine Kb.gw ?_ _ | refine Kb.setCell ?_ _ _ | refine Kb.alloc ?_ _ | refine Kb.drew ?_ | exact Kb.refl _ _ | exact HK.out)), rfl⟩
  · have hb : b < w.heap.size := hS.lt
    have hu : tU t = false := hU t l rfl
    have hts := hs t (by simp)
    have hsl := hs.tail
    have hsg := fun w hS => psign_any (t :: l) b w hS hs
    have ihl := ih l (by simp)
    have hL : ∀ b', (tnm t).toList = b' → tL t = (b' == [40]) := fun b' h => by unfold tL; rw [h]
    have hat : ∀ a, tatom t = a → P exLang (.U (t :: l)) (a.map fun e => (e, l)) ∨ tL t = true := fun a ha => by
      rcases h : tL t with _ | _
      · left; have := P.atom (S := exLang) t l hu h; rw [show exLang.atom t = tatom t from rfl, ha] at this; exact this
      · exact .inr rfl
    obtain ⟨N, hN⟩ : ∃ N, tnm t = N := ⟨_, rfl⟩
    have hat2 := hat _ rfl
    unfold tatom at hat2
    simp only [show hdn (t :: l) = N from hN] at hsg
    rw [hN] at hat2 hL
    obtain ⟨tk, tt, tn, ta⟩ := t
    simp only at hts hat2
    have hne : N.toList.isEmpty = decide (N.toList = []) := by cases N.toList <;> simp
    have HS := Lib.hid hS; clear hS
    have HSG := Lib.hid hsg; clear hsg hat hU ih hs
    have HIH := Lib.hid ihl; clear ihl
    have HSL := Lib.hid hsl; clear hsl hN
    have hP := hL _ rfl
    clear hL
    have HU := Lib.hid hu; clear hu
    by_cases h36 : N.toList = [36]
    · rw [h36] at hP hne
      rw [if_pos h36] at hat2
      have hp := hat2.resolve_right (by rw [hP]; decide)
      have HP := Lib.hid hp; clear hp hat2 hP hne
      go_enter Tryz.func154, Tryz.ntmps154
      go_wp2_with fail
      refine (HSG.out _ HS.out).mono ?_
      rintro e w1 ⟨rfl, hb1⟩
      obtain ⟨p1, rfl⟩ := gw_of_below hb1
      clear hb1
      go_wp2_with fail
      refine (take_some _ l b _ (HS.out.gw _)).mono ?_
      rintro e w2 ⟨rfl, hS2, hK2⟩
      have HK := Lib.hid (Kb.trans (by (with_reducible repeat (first | refine Kb.gw ?_ _ | refine Kb.setCell ?_ _ _ | refine Kb.alloc ?_ _ | refine Kb.drew ?_ | exact Kb.refl _ _ | exact HK.out)) : Kb b w _) hK2); clear hK2
      have hb2 : b < w2.heap.size := hS2.lt
      have HS2 := Lib.hid hS2; clear hS2
      go_wp2_with fail
      go_ret
      refine ⟨some (.here, l), HP.out, by (with_reducible repeat (first | refine Kb.gw ?_ _ | refine Kb.setCell ?_ _ _ | refine Kb.alloc ?_ _ | refine Kb.drew ?_ | exact Kb.refl _ _ | exact HK.out)), _, rfl, ⟨w2.heap.size + 1, by omega, rfl, ?_⟩, (HS2.out.alloc _).alloc _⟩
      exact alloc2_at _ _ _
    have n36 : (N.toList == [36]) = false := by simpa using h36
    rw [if_neg h36] at hat2
    by_cases h40 : N.toList = [40]
    · have hLt : exLang.isL ⟨tk, tt, tn, ta⟩ = true := by show tL _ = true; rw [hP, h40]; rfl
      have HL := Lib.hid hLt; clear hLt hP hne hat2 h36 n36
      go_enter Tryz.func154, Tryz.ntmps154
      go_wp2_with fail
      refine (HSG.out _ HS.out).mono ?_
      rintro e w1 ⟨rfl, hb1⟩
      obtain ⟨p1, rfl⟩ := gw_of_below hb1
      clear hb1
      go_wp2_with fail
      refine (take_some _ l b _ (HS.out.gw _)).mono ?_
      rintro e w2 ⟨rfl, hS2, hK2⟩
      have HK := Lib.hid (Kb.trans (by (with_reducible repeat (first | refine Kb.gw ?_ _ | refine Kb.setCell ?_ _ _ | refine Kb.alloc ?_ _ | refine Kb.drew ?_ | exact Kb.refl _ _ | exact HK.out)) : Kb b w _) hK2); clear hK2
      have hb2 : b < w2.heap.size := hS2.lt
      have HS2 := Lib.hid hS2; clear hS2
      go_wp2_with fail
      refine (HIH.out 1 b _ HSL.out (HS2.out.alloc _)).mono ?_
      rintro e w3 ⟨res, hpb, hk3, hres⟩
      have HPB := Lib.hid hpb; clear hpb
      rcases res with _ | ⟨x, rest⟩
      · simp only at hres
        subst hres
        have HK3 := Lib.hid (Kb.trans (by (with_reducible repeat (first | refine Kb.gw ?_ _ | refine Kb.setCell ?_ _ _ | refine Kb.alloc ?_ _ | refine Kb.drew ?_ | exact Kb.refl _ _ | exact HK.out)) : Kb b w _) hk3); clear hk3 HK
        have HK := HK3
        go_wp2_with fail
        refine ⟨rfl, ?_⟩
        exact ⟨none, .parN _ _ none HU.out HL.out HPB.out (fun e t' r h => by cases h), by (with_reducible repeat (first | refine Kb.gw ?_ _ | refine Kb.setCell ?_ _ _ | refine Kb.alloc ?_ _ | refine Kb.drew ?_ | exact Kb.refl _ _ | exact HK.out)), rfl⟩
      · obtain ⟨v, rfl, hn3, hs3⟩ := hres
        have hends := (P.ends HPB.out x rest rfl).2 1 l rfl
        have hsr : Small rest := by obtain ⟨l1, h, _⟩ := hends; have := HSL.out; rw [h] at this; exact this.suffix
        clear hends
        have HK3 := Lib.hid (Kb.trans (by (with_reducible repeat (first | refine Kb.gw ?_ _ | refine Kb.setCell ?_ _ _ | refine Kb.alloc ?_ _ | refine Kb.drew ?_ | exact Kb.refl _ _ | exact HK.out)) : Kb b w _) hk3); clear hk3 HK
        have HK := HK3
        have hb3 : b < w3.heap.size := hs3.lt
        have hsg3 := fun w hS => psign_any rest b w hS hsr
        have HSG3 := Lib.hid hsg3; clear hsg3
        have HS3 := Lib.hid hs3; clear hs3
        have HN3 := Lib.hid hn3; clear hn3
        by_cases h41 : (hdn rest).toList = [41]
        · rcases rest with _ | ⟨t', r⟩
          · exfalso; rw [show hdn [] = (⟨#[]⟩ : ByteArray) from rfl, ByteArray.toList_eq] at h41; cases h41
          have hR : exLang.isR t' = true := by show ((tnm t').toList == [41]) = true; rw [show tnm t' = hdn (t' :: r) from rfl, h41]; rfl
          have HR := Lib.hid hR; clear hR
          go_wp2_with fail
          refine (HSG3.out _ HS3.out).mono ?_
          rintro e w4 ⟨rfl, hb4⟩
          obtain ⟨p4, rfl⟩ := gw_of_below hb4
          clear hb4
          go_wp2_with fail
          refine (take_some _ r b _ (HS3.out.gw _)).mono ?_
          rintro e w5 ⟨rfl, hS5, hK5⟩
          have hn5 := NodeAt.kb (HN3.out.below (below_gw w3 p4)) hK5 (by omega)
          have HN5 := Lib.hid hn5; clear hn5
          have HK5 := Lib.hid (Kb.trans (by (with_reducible repeat (first | refine Kb.gw ?_ _ | refine Kb.setCell ?_ _ _ | refine Kb.alloc ?_ _ | refine Kb.drew ?_ | exact Kb.refl _ _ | exact HK.out)) : Kb b w _) hK5); clear hK5 HK
          have HK := HK5
          have HS5 := Lib.hid hS5; clear hS5
          go_wp2_with fail
          go_ret
          exact ⟨some (x, r), .par _ t' l r x HU.out HL.out HPB.out HR.out, by (with_reducible repeat (first | refine Kb.gw ?_ _ | refine Kb.setCell ?_ _ _ | refine Kb.alloc ?_ _ | refine Kb.drew ?_ | exact Kb.refl _ _ | exact HK.out)), v, rfl, HN5.out, HS5.out⟩
        · have n41 : ((hdn rest).toList == [41]) = false := by simpa using h41
          go_wp2_with fail
          refine (HSG3.out _ HS3.out).mono ?_
          rintro e w4 ⟨rfl, hb4⟩
          obtain ⟨p4, rfl⟩ := gw_of_below hb4
          clear hb4
          go_wp2_with fail
          refine ⟨rfl, ?_⟩
          refine ⟨none, .parN _ _ _ HU.out HL.out HPB.out (fun e t' r h => ?_), by (with_reducible repeat (first | refine Kb.gw ?_ _ | refine Kb.setCell ?_ _ _ | refine Kb.alloc ?_ _ | refine Kb.drew ?_ | exact Kb.refl _ _ | exact HK.out)), rfl⟩
          cases h
          have : exLang.isR t' = ((tnm t').toList == [41]) := rfl
          rw [this]; exact n41
    have n40 : (N.toList == [40]) = false := by simpa using h40
    rw [n40] at hP
    have hat3 := hat2.resolve_right (by rw [hP]; decide)
    clear hat2 hP h40 h36
    by_cases he : N.toList = []
    · rw [decide_eq_true he] at hne
      rw [if_neg (fun h => h he)] at hat3
      have hN0 := emptyB N he
      by_cases h1 : tk = 1
      · rw [if_pos h1] at hat3
        subst h1
        have HP := Lib.hid hat3; clear hat3
        have HN0 := Lib.hid hN0; clear hN0 he
        go_enter Tryz.func154, Tryz.ntmps154
        go_wp2_with fail
        refine (HSG.out _ HS.out).mono ?_
        rintro e w1 ⟨rfl, hb1⟩
        obtain ⟨p1, rfl⟩ := gw_of_below hb1
        clear hb1
        go_wp2_with fail
        refine (take_some _ l b _ (HS.out.gw _)).mono ?_
        rintro e w2 ⟨rfl, hS2, hK2⟩
        have HK := Lib.hid (Kb.trans (by (with_reducible repeat (first | refine Kb.gw ?_ _ | refine Kb.setCell ?_ _ _ | refine Kb.alloc ?_ _ | refine Kb.drew ?_ | exact Kb.refl _ _ | exact HK.out)) : Kb b w _) hK2); clear hK2
        have hb2 : b < w2.heap.size := hS2.lt
        have HS2 := Lib.hid hS2; clear hS2
        go_wp2_with fail
        go_ret
        refine ⟨some (.sym tt, l), HP.out, by (with_reducible repeat (first | refine Kb.gw ?_ _ | refine Kb.setCell ?_ _ _ | refine Kb.alloc ?_ _ | refine Kb.drew ?_ | exact Kb.refl _ _ | exact HK.out)), _, rfl, ⟨w2.heap.size + 1, by omega, rfl, ?_⟩, (HS2.out.alloc _).alloc _⟩
        exact alloc2_at _ _ _
      have b1 : (tk == 1) = false := by simpa using h1
      rw [if_neg h1] at hat3
      clear h1
      by_cases h2 : tk = 2
      · rw [if_pos h2] at hat3
        subst h2
        have HP := Lib.hid hat3; clear hat3
        have HN0 := Lib.hid hN0; clear hN0 he
        go_enter Tryz.func154, Tryz.ntmps154
        go_wp2_with fail
        refine (HSG.out _ HS.out).mono ?_
        rintro e w1 ⟨rfl, hb1⟩
        obtain ⟨p1, rfl⟩ := gw_of_below hb1
        clear hb1
        go_wp2_with fail
        refine (take_some _ l b _ (HS.out.gw _)).mono ?_
        rintro e w2 ⟨rfl, hS2, hK2⟩
        have HK := Lib.hid (Kb.trans (by (with_reducible repeat (first | refine Kb.gw ?_ _ | refine Kb.setCell ?_ _ _ | refine Kb.alloc ?_ _ | refine Kb.drew ?_ | exact Kb.refl _ _ | exact HK.out)) : Kb b w _) hK2); clear hK2
        have hb2 : b < w2.heap.size := hS2.lt
        have HS2 := Lib.hid hS2; clear hS2
        go_wp2_with fail
        go_ret
        refine ⟨some (.num tn, l), HP.out, by (with_reducible repeat (first | refine Kb.gw ?_ _ | refine Kb.setCell ?_ _ _ | refine Kb.alloc ?_ _ | refine Kb.drew ?_ | exact Kb.refl _ _ | exact HK.out)), _, rfl, ⟨w2.heap.size + 1, by omega, rfl, ?_⟩, (HS2.out.alloc _).alloc _⟩
        exact alloc2_at _ _ _
      have b2 : (tk == 2) = false := by simpa using h2
      rw [if_neg h2] at hat3
      clear h2
      by_cases h3 : tk = 3 ∧ tt.toList.length = 1
      · rw [if_pos h3] at hat3
        obtain ⟨rfl, h31⟩ := h3
        have hz : tt.size = 1 := by rw [ByteArray.toList_eq] at h31; simpa using h31
        have hz0 : 0 < tt.size := by omega
        have hz1 : ((tt.size : Int) == 1) = true := by simp; omega
        rw [head_byte tt hz0] at hat3
        have hw64 : wrap64 (tt[0].toNat : Int) = (tt[0].toNat : Int) := by have := tt[0].toNat_lt; simp only [wrap64]; omega
        have HP := Lib.hid hat3; clear hat3 h31 hz
        have HN0 := Lib.hid hN0; clear hN0 he
        go_enter Tryz.func154, Tryz.ntmps154
        go_wp2_with fail
        refine (HSG.out _ HS.out).mono ?_
        rintro e w1 ⟨rfl, hb1⟩
        obtain ⟨p1, rfl⟩ := gw_of_below hb1
        clear hb1
        go_wp2_with fail
        refine (take_some _ l b _ (HS.out.gw _)).mono ?_
        rintro e w2 ⟨rfl, hS2, hK2⟩
        have HK := Lib.hid (Kb.trans (by (with_reducible repeat (first | refine Kb.gw ?_ _ | refine Kb.setCell ?_ _ _ | refine Kb.alloc ?_ _ | refine Kb.drew ?_ | exact Kb.refl _ _ | exact HK.out)) : Kb b w _) hK2); clear hK2
        have hb2 : b < w2.heap.size := hS2.lt
        have HS2 := Lib.hid hS2; clear hS2
        go_wp2_with fail
        go_ret
        refine ⟨some ((.num (tt[0].toNat : Int)), l), HP.out, by (with_reducible repeat (first | refine Kb.gw ?_ _ | refine Kb.setCell ?_ _ _ | refine Kb.alloc ?_ _ | refine Kb.drew ?_ | exact Kb.refl _ _ | exact HK.out)), _, rfl, ⟨w2.heap.size + 1, by omega, rfl, ?_⟩, (HS2.out.alloc _).alloc _⟩
        exact alloc2_at _ _ _
      rw [if_neg h3] at hat3
      have HP := Lib.hid hat3; clear hat3
      have HN0 := Lib.hid hN0; clear hN0 he
      by_cases h33 : tk = 3
      · have hz : ¬ tt.size = 1 := fun h => h3 ⟨h33, by rw [ByteArray.toList_eq]; simpa using h⟩
        have hz1 : ((tt.size : Int) == 1) = false := by simp; omega
        subst h33
        clear h3
        go_enter Tryz.func154, Tryz.ntmps154
        go_wp2_with fail
        refine (HSG.out _ HS.out).mono ?_
        rintro e w1 ⟨rfl, hb1⟩
        obtain ⟨p1, rfl⟩ := gw_of_below hb1
        clear hb1
        go_wp2_with fail
        refine (take_some _ l b _ (HS.out.gw _)).mono ?_
        rintro e w2 ⟨rfl, hS2, hK2⟩
        have HK := Lib.hid (Kb.trans (by (with_reducible repeat (first | refine Kb.gw ?_ _ | refine Kb.setCell ?_ _ _ | refine Kb.alloc ?_ _ | refine Kb.drew ?_ | exact Kb.refl _ _ | exact HK.out)) : Kb b w _) hK2); clear hK2
        have hb2 : b < w2.heap.size := hS2.lt
        have HS2 := Lib.hid hS2; clear hS2
        go_wp2_with fail
        refine ⟨rfl, ?_⟩
        exact ⟨none, HP.out, by (with_reducible repeat (first | refine Kb.gw ?_ _ | refine Kb.setCell ?_ _ _ | refine Kb.alloc ?_ _ | refine Kb.drew ?_ | exact Kb.refl _ _ | exact HK.out)), rfl⟩
      · have b3 : (tk == 3) = false := by simpa using h33
        clear h3 h33
        go_enter Tryz.func154, Tryz.ntmps154
        go_wp2_with fail
        refine (HSG.out _ HS.out).mono ?_
        rintro e w1 ⟨rfl, hb1⟩
        obtain ⟨p1, rfl⟩ := gw_of_below hb1
        clear hb1
        go_wp2_with fail
        refine (take_some _ l b _ (HS.out.gw _)).mono ?_
        rintro e w2 ⟨rfl, hS2, hK2⟩
        have HK := Lib.hid (Kb.trans (by (with_reducible repeat (first | refine Kb.gw ?_ _ | refine Kb.setCell ?_ _ _ | refine Kb.alloc ?_ _ | refine Kb.drew ?_ | exact Kb.refl _ _ | exact HK.out)) : Kb b w _) hK2); clear hK2
        have hb2 : b < w2.heap.size := hS2.lt
        have HS2 := Lib.hid hS2; clear hS2
        go_wp2_with fail
        refine ⟨rfl, ?_⟩
        exact ⟨none, HP.out, by (with_reducible repeat (first | refine Kb.gw ?_ _ | refine Kb.setCell ?_ _ _ | refine Kb.alloc ?_ _ | refine Kb.drew ?_ | exact Kb.refl _ _ | exact HK.out)), rfl⟩
    · rw [decide_eq_false he] at hne
      rw [if_pos he] at hat3
      have HP := Lib.hid hat3; clear hat3 he
      go_enter Tryz.func154, Tryz.ntmps154
      go_wp2_with fail
      refine (HSG.out _ HS.out).mono ?_
      rintro e w1 ⟨rfl, hb1⟩
      obtain ⟨p1, rfl⟩ := gw_of_below hb1
      clear hb1
      go_wp2_with fail
      refine (take_some _ l b _ (HS.out.gw _)).mono ?_
      rintro e w2 ⟨rfl, hS2, hK2⟩
      have HK := Lib.hid (Kb.trans (by (with_reducible repeat (first | refine Kb.gw ?_ _ | refine Kb.setCell ?_ _ _ | refine Kb.alloc ?_ _ | refine Kb.drew ?_ | exact Kb.refl _ _ | exact HK.out)) : Kb b w _) hK2); clear hK2
      have hb2 : b < w2.heap.size := hS2.lt
      have HS2 := Lib.hid hS2; clear hS2
      go_wp2_with fail
      refine ⟨rfl, ?_⟩
      exact ⟨none, HP.out, by (with_reducible repeat (first | refine Kb.gw ?_ _ | refine Kb.setCell ?_ _ _ | refine Kb.alloc ?_ _ | refine Kb.drew ?_ | exact Kb.refl _ _ | exact HK.out)), rfl⟩
end Go.Proofs.YtnjpfhihbjihbaaGreatDoor
