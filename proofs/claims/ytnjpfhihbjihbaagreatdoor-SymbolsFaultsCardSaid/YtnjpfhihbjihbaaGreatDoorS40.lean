/- Joined texts: UsesW, UsesT. -/
import Derived.Test.YtnjpfhihbjihbaaGreatDoorS19
import Derived.Test.YtnjpfhihbjihbaaGreatDoorS35
import Derived.Test.YtnjpfhihbjihbaaGreatDoorS39
/- The closure of (*symbols.Table).Uses. -/
namespace Go.Proofs.YtnjpfhihbjihbaaGreatDoor
open Go.RowKit Go.Sort

open Go.ChangeMaps
/-- The set O is closed but for A. -/
def UInv (L : List Sy) (A O : ByteArray → Prop) : Prop := ∀ u v, O u → ¬ A u → Dep L u v → O v
/-- The world of the closure. -/
structure UseW (w : World) (ct co cv g b bo : Nat) (M : List (Sy × Value)) (lO : List (ByteArray × Value)) : Prop where
  t : w.cell? ⟨ct, 0, none⟩ = some (.pointer (some ⟨g, 0, none⟩))
  o : w.cell? ⟨co, 0, none⟩ = some (.map (some bo))
  v : w.cell? ⟨cv, 0, none⟩ = some (.func (.func 54) #[] #[.pointer (some ⟨ct, 0, none⟩), .pointer (some ⟨co, 0, none⟩), .pointer (some ⟨cv, 0, none⟩)])
  tab : TabIn w g b M
  om : SMap w bo lO
  sb : ∀ t v, sget lO t = some v → v = .bool true
  n1 : b ≠ bo
theorem UseW.kb {w w' : World} {ct co cv g b bo : Nat} {M : List (Sy × Value)} {lO lO' : List (ByteArray × Value)} (h : UseW w ct co cv g b bo M lO) (hk : Kb bo w w') (hO : SMap w' bo lO') (hs : ∀ t v, sget lO' t = some v → v = .bool true) : UseW w' ct co cv g b bo M lO' :=
  have hc := Ck.of_kb hk h.om
  ⟨hc.cell h.t, hc.cell h.o, hc.cell h.v, h.tab.ck hc (hk.block b h.tab.map.lt h.n1), hO, hs, h.n1⟩
theorem UseW.below {w w' : World} {ct co cv g b bo : Nat} {M : List (Sy × Value)} {lO : List (ByteArray × Value)} (h : UseW w ct co cv g b bo M lO) (hb : Below w.heap.size w w') : UseW w' ct co cv g b bo M lO :=
  h.kb (.of_below hb) (h.om.below hb) h.sb
/-- What the closure leaves. -/
def UsePost (ct co cv g b bo : Nat) (M : List (Sy × Value)) (A : ByteArray → Prop) (lO : List (ByteArray × Value)) (name : ByteArray) (w : World) (e : Ending) (w' : World) : Prop :=
  e = .returned (.tuple #[]) ∧ ∃ lO', UseW w' ct co cv g b bo M lO' ∧ UInv (M.map Prod.fst) A (seenS lO') ∧ (∀ t, seenS lO t → seenS lO' t) ∧ (∀ t, Dep (M.map Prod.fst) name t → seenS lO' t) ∧ (∀ t, seenS lO' t → seenS lO t ∨ Leads (M.map Prod.fst) name t) ∧ Kb bo w w'
theorem argsAt_opt {w : World} {X : Option Ex} {v : Value} {T : TypeId} (h : OptAt 130 w X v) : ArgsAt 130 (w.alloc (.cells #[v] T)) [X] (.slice (some ⟨w.heap.size, 0, none⟩) 1 1) := by
  refine ⟨w.heap.size, 0, 1, rfl, by show _ < (w.heap.push _).size; simp, fun j x hx => ?_⟩
  rcases j with _ | j
  · simp only [List.getElem?_cons_zero, Option.some.injEq] at hx
    subst hx
    refine ⟨v, by rw [cell_at (alloc_at' w _)]; rfl, h.below ((Below.refl _ _).alloc (Nat.le_refl _) _)⟩
  · simp at hx
/-- What holds at the head of the closure's loop. -/
def UseLoop (ct co cv g b bo : Nat) (M : List (Sy × Value)) (A : ByteArray → Prop) (lO : List (ByteArray × Value)) (name : ByteArray) (ns : List (List UInt8)) (w : World) (k : Nat) (wr : World) : Prop :=
  ∃ lO', UseW wr ct co cv g b bo M lO' ∧ UInv (M.map Prod.fst) A (seenS lO') ∧ (∀ t, seenS lO t → seenS lO' t) ∧ (∀ t ∈ ns.take k, (∃ s, sfindS (M.map Prod.fst) ⟨t.toArray⟩ = some s) → seenS lO' ⟨t.toArray⟩) ∧ (∀ t, seenS lO' t → seenS lO t ∨ Leads (M.map Prod.fst) name t) ∧ Kb bo w wr
set_option maxHeartbeats 4000000 in
set_option maxRecDepth 100000 in
theorem use_any (ct co cv g b bo : Nat) (M : List (Sy × Value)) (hok : ∀ x ∈ M, SyOk x.1) : ∀ (n : Nat) (name : ByteArray) (A : ByteArray → Prop) (w : World) (lO : List (ByteArray × Value)), unseen M lO ≤ n → UseW w ct co cv g b bo M lO → UInv (M.map Prod.fst) (fun u => A u ∨ u = name) (seenS lO) →
    Calls Tryz.prog 54 #[.string name, .pointer (some ⟨ct, 0, none⟩), .pointer (some ⟨co, 0, none⟩), .pointer (some ⟨cv, 0, none⟩)] w (UsePost ct co cv g b bo M A lO name w) := by
    intro n
    induction n using Nat.strongRecOn with
    | _ n ih =>
    intro name A w lO hn hw hv
    have HIH := Lib.hid ih; clear ih
    have HN := Lib.hid hn; clear hn
    have c1 := hw.t
    have c2 := hw.tab.cell
    have hg : g < w.heap.size := lt_of_block hw.tab.head
    have hct := cell_lt c1
    have hlk := run_sget (P := Tryz.prog) Tryz.underlying103 Tryz.underlying9 zeroSym hw.tab.map name false
    obtain ⟨X, px, n0, h0, l0, hX, hxo, hdep, hgl⟩ : ∃ (X : Option Ex) (px : Option Addr) (n0 h0 l0 : Int), OptAt 130 w X (.pointer px) ∧ oNodes X ≤ 1000000 ∧ (∀ t, Dep (M.map Prod.fst) name t ↔ (t.data.toList ∈ uniq (lSyms [X]) ∧ ∃ s, sfindS (M.map Prod.fst) t = some s)) ∧ (sget (M.map symP) name).getD (.agg #[.int .i64 0, .pointer none, .int .i64 0, .int .i64 0]) = .agg #[.int .i64 n0, .pointer px, .int .i64 h0, .int .i64 l0] := by
      rcases sget_symP M name with ⟨h1, h2⟩ | ⟨x, hx, h1, h2⟩
      · refine ⟨none, none, 0, 0, 0, rfl, Nat.zero_le _, fun t => ⟨(fun ⟨s, hs, _⟩ => by rw [h2] at hs; cases hs), fun ⟨h, _⟩ => ?_⟩, by rw [h1]; rfl⟩
        rw [mem_uniq] at h
        simp [lSyms, oSyms] at h
      · obtain ⟨px, hpx⟩ := (hw.tab.node x hx).ptr
        have hxn := hw.tab.node x hx
        rw [hpx] at hxn
        refine ⟨x.1.ex, px, x.1.n, x.1.here, x.1.line, hxn, ?_, fun t => ?_, by rw [h1, Option.getD_some]; unfold symV; rw [hpx]⟩
        · rcases he : x.1.ex with _ | y
          · exact Nat.zero_le _
          · exact ((hok x hx).2.2 y he).2
        · constructor
          · rintro ⟨s, hs, hb, hd⟩
            rw [h2] at hs; cases hs
            refine ⟨?_, hd⟩
            unfold Sy.syms at hb
            rcases he : x.1.ex with _ | y
            · rw [he] at hb; cases hb
            · rw [he] at hb; exact (mem_lSyms y t).1 hb
          · rintro ⟨hm, hd⟩
            refine ⟨x.1, h2, ?_, hd⟩
            unfold Sy.syms
            rcases he : x.1.ex with _ | y
            · rw [he, mem_uniq] at hm; simp [lSyms, oSyms] at hm
            · rw [he] at hm; exact (mem_lSyms y t).2 hm
    simp only [Bool.false_eq_true, if_false] at hlk
    rw [hgl] at hlk
    have hns : ∀ v w, ArgsAt 130 w [X] v → Calls Tryz.prog 47 #[v] w (NamesRes [X] w) := fun v w h => names_any (oNodes X) [X] (by simp [lNodes]) hxo (by simp) v w h
    unfold NamesRes at hns
    have hnl : (uniq (lSyms [X])).length ≤ 1000000 := by
      have h1 := uniq_len (lSyms [X])
      have h2 := lSyms_len [X]
      simp only [lNodes] at h2
      omega
    generalize uniq (lSyms [X]) = ns at hns hnl hdep
    have hfld : ∀ w, (Instr.field 101 (.agg #[.int .i64 n0, .pointer px, .int .i64 h0, .int .i64 l0]) 1).run Tryz.prog w = .ok (.pointer px) w := fun w => by kernel_rfl
    have HNS := Lib.hid hns
    have HDEP := Lib.hid hdep
    have HW := Lib.hid hw
    have HV := Lib.hid hv
    have HX := Lib.hid hX
    have HOK := Lib.hid hok
    clear hns hdep hw hv hX hgl hxo hok
    go_enter Tryz.func54, Tryz.ntmps54
    go_wp2_with fail
    (with_reducible refine (HNS.out _ _ (argsAt_opt HX.out)).mono ?_)
    rintro e w2 ⟨vn, rfl, hrow, _, hb2⟩
    have hbw : Below w.heap.size w w2 := Below.trans (b := w.alloc (.cells #[.pointer px] 38)) (by (repeat (first | exact Below.refl _ _ | refine Below.drew ?_ | (refine below_gw' ?_ (by first | omega | (simp [go_sem]; done) | (simp [go_sem]; omega)) _) | (refine Below.alloc ?_ (by first | omega | (simp [go_sem]; done) | (simp [go_sem]; omega)) _) | (refine Below.setCell ?_ (by first | omega | (simp [go_sem]; done) | (simp [go_sem]; omega)) _)))) (hb2.mono (by show _ ≤ (w.heap.push _).size; simp))
    obtain ⟨a, cap, rfl, hcap, hc⟩ := hrow.strs
    have HC := Lib.hid hc
    have HW2 := Lib.hid (HW.out.below hbw)
    have HB2 := Lib.hid hbw
    have hn1 : (ns.length : Int) ≤ 1000000 := by omega
    have hc1 : (ns.length : Int) ≤ (cap : Int) := by omega
    clear hb2 hrow hc hbw hcap c1 c2 hlk
    go_wp2_with fail
    go_loopw [19] (fun i wr => ∃ k : Nat, k ≤ ns.length ∧ i = .int .i64 k ∧ UseLoop ct co cv g b bo M (fun u => A u ∨ u = name) lO name ns w2 k wr) (fun i _ => ns.length - (intOf i).toNat)
    case atStart => exact ⟨0, Nat.zero_le _, rfl, lO, HW2.out, HV.out, fun _ h => h, fun t ht => by simp at ht, fun _ h => .inl h, Kb.refl _ _⟩
    case round =>
      obtain ⟨k, hk, rfl, lO', huw, huv, hmono, hdone, hsound, hk2⟩ := hrel
      have hck := Ck.of_kb hk2 HW2.out.om
      have d1 := huw.t
      have d2 := huw.tab.cell
      have d4 := huw.o
      have d5 := huw.v
      have l1 := cell_lt d1
      have l2 := cell_lt d2
      have l4 := cell_lt d4
      have l5 := cell_lt d5
      have HU := Lib.hid huw
      have HUV := Lib.hid huv
      have HMO := Lib.hid hmono
      have HDO := Lib.hid hdone
      have HSO := Lib.hid hsound
      have HK := Lib.hid hk2
      by_cases hlt : k < ns.length
      · obtain ⟨t, ht⟩ : ∃ t, ns[k]? = some t := ⟨_, List.getElem?_eq_getElem hlt⟩
        obtain ⟨gr, o, rfl, hgr, hcs⟩ := HC.out (by rintro rfl; simp at ht)
        have f0 := hck.cell (hcs k t ht)
        have HT : Hid (ns.take (k + 1) = ns.take k ++ [t]) := Lib.hid (by rw [List.take_add_one, ht]; rfl)
        have HTM : Hid (t ∈ ns) := Lib.hid (List.mem_of_getElem? ht)
        have hi0 : (0 : Int) ≤ (k : Int) := by omega
        have hi1 : (k : Int) < (ns.length : Int) := by omega
        have l3 := cell_lt f0
        obtain ⟨tb, htb⟩ : ∃ tb : ByteArray, (⟨t.toArray⟩ : ByteArray) = tb := ⟨_, rfl⟩
        rw [htb] at f0
        have HTB := Lib.hid htb
        have hlk := run_sget (P := Tryz.prog) Tryz.underlying103 Tryz.underlying9 zeroSym huw.tab.map tb true
        clear huw huv hmono hdone hsound hk2 hck hcs ht htb
        rcases sget_symP M tb with ⟨h1, h2⟩ | ⟨x, hx, h1, h2⟩
        · rw [h1] at hlk
          simp only [Option.getD_none, Option.isSome_none, if_true] at hlk
          have HR : Hid (∀ w3, Below wr.heap.size wr w3 → UseLoop ct co cv g b bo M (fun u => A u ∨ u = name) lO name ns w2 (k + 1) w3) := Lib.hid fun w3 hb => ⟨lO', HU.out.below hb, HUV.out, HMO.out, fun u hu hd => by
            rw [HT.out] at hu
            rcases List.mem_append.1 hu with hu | hu
            · exact HDO.out u hu hd
            · rw [List.mem_singleton] at hu; subst hu
              obtain ⟨s, hs⟩ := hd
              rw [HTB.out, h2] at hs
              exact absurd hs (by simp), HSO.out, HK.out.trans (.of_below hb)⟩
          clear h1 h2
          go_wp2_with fail
          go_roundw
          case rel => exact ⟨k + 1, by omega, by go_num, HR.out _ (by (repeat (first | exact Below.refl _ _ | refine Below.drew ?_ | (refine below_gw' ?_ (by first | omega | (simp [go_sem]; done) | (simp [go_sem]; omega)) _) | (refine Below.alloc ?_ (by first | omega | (simp [go_sem]; done) | (simp [go_sem]; omega)) _) | (refine Below.setCell ?_ (by first | omega | (simp [go_sem]; done) | (simp [go_sem]; omega)) _))))⟩
          case measure => simp [intOf]; omega
        · obtain ⟨pq, hpq⟩ := (HU.out.tab.node x hx).ptr
          rw [h1, hpq] at hlk
          simp only [symV, Option.getD_some, Option.isSome_some, if_true] at hlk
          have hls := run_sget (P := Tryz.prog) Tryz.underlying98 Tryz.underlying9 zeroBool (HU.out.om.alloc (.cells #[.int .i64 x.1.n, .pointer pq, .int .i64 x.1.here, .int .i64 x.1.line] 101)) tb false
          have HD : Hid (Dep (M.map Prod.fst) name tb) := Lib.hid ((HDEP.out tb).2 ⟨by rw [← HTB.out]; exact HTM.out, _, h2⟩)
          obtain ⟨hxm, hxn⟩ := sfindS_some h2
          rcases hst : sget lO' tb with _ | u
          · rw [hst] at hls
            simp only [Option.getD_none, Bool.false_eq_true, if_false] at hls
            have hnot : ¬ seenS lO' tb := by unfold seenS; rw [hst]; simp
            have hlt2 : unseen M (sput lO' tb (.bool true)) < unseen M lO' := unseen_lt (fun t ht => (seen_put lO' tb t _).2 (.inl ht)) hx (by rw [hxn]; exact hst) ((seen_put lO' tb _ _).2 (.inr hxn))
            have hle := unseen_le (M := M) HMO.out
            have hn0 : 0 < n := Nat.lt_of_lt_of_le (Nat.lt_of_le_of_lt (Nat.zero_le _) hlt2) (Nat.le_trans hle HN.out)
            have hcall := fun w3 (hu3 : UseW w3 ct co cv g b bo M (sput lO' tb (.bool true))) => HIH.out (n - 1) (by omega) tb (fun u => A u ∨ u = name) w3 _ (by have := HN.out; omega) hu3 (fun u v hu hna hd => by
              rw [seen_put] at hu ⊢
              rcases hu with hu | hu
              · exact .inl (HUV.out u v hu (fun h => hna (.inl h)) hd)
              · exact absurd (.inr hu) hna)
            have HCALL := Lib.hid hcall
            clear hcall hlt2 hle hn0 hnot h1 h2 hst hxm hxn hpq hx
            go_wp2_with (at_mapUpdate; refine wpList_sput rfl _ _ _ 98 rfl 9 4 Tryz.underlying98 Tryz.underlying9 bo lO' tb (.bool true) rfl rfl rfl (HU.out.om.below (by (repeat (first | exact Below.refl _ _ | refine Below.drew ?_ | (refine below_gw' ?_ (by first | omega | (simp [go_sem]; done) | (simp [go_sem]; omega)) _) | (refine Below.alloc ?_ (by first | omega | (simp [go_sem]; done) | (simp [go_sem]; omega)) _) | (refine Below.setCell ?_ (by first | omega | (simp [go_sem]; done) | (simp [go_sem]; omega)) _))))) ?_)
            intro w3 hm3 hk3 hz3
            have hu3 := (HU.out.below (show Below wr.heap.size wr _ by (repeat (first | exact Below.refl _ _ | refine Below.drew ?_ | (refine below_gw' ?_ (by first | omega | (simp [go_sem]; done) | (simp [go_sem]; omega)) _) | (refine Below.alloc ?_ (by first | omega | (simp [go_sem]; done) | (simp [go_sem]; omega)) _) | (refine Below.setCell ?_ (by first | omega | (simp [go_sem]; done) | (simp [go_sem]; omega)) _))))).kb hk3 hm3 (some_put HU.out.sb tb)
            have hkk : Kb bo wr w3 := (Kb.of_below (by (repeat (first | exact Below.refl _ _ | refine Below.drew ?_ | (refine below_gw' ?_ (by first | omega | (simp [go_sem]; done) | (simp [go_sem]; omega)) _) | (refine Below.alloc ?_ (by first | omega | (simp [go_sem]; done) | (simp [go_sem]; omega)) _) | (refine Below.setCell ?_ (by first | omega | (simp [go_sem]; done) | (simp [go_sem]; omega)) _))))).trans hk3
            have q5 := hu3.v
            have lq := cell_lt q5
            have HU3 := Lib.hid hu3
            have HK3 := Lib.hid hkk
            clear hu3 hkk hm3 hk3 hz3 d1 d2 d4 d5 hlk hls f0
            go_wp2_with fail
            (with_reducible refine (HCALL.out w3 HU3.out).mono ?_)
            rintro e w4 ⟨rfl, lO4, hu4, hv4, hm4, hd4, hs4, hk4⟩
            have HR : Hid (UseLoop ct co cv g b bo M (fun u => A u ∨ u = name) lO name ns w2 (k + 1) w4) := Lib.hid ⟨lO4, hu4, hv4, fun u hu => hm4 u ((seen_put lO' tb u _).2 (.inl (HMO.out u hu))), fun u hu hd => by
              rw [HT.out] at hu
              rcases List.mem_append.1 hu with hu | hu
              · exact hm4 _ ((seen_put lO' tb _ _).2 (.inl (HDO.out u hu hd)))
              · rw [List.mem_singleton] at hu; subst hu
                exact hm4 _ ((seen_put lO' tb _ _).2 (.inr HTB.out)), fun u hu => by
              rcases hs4 u hu with h | h
              · rw [seen_put] at h
                rcases h with h | rfl
                · exact HSO.out u h
                · exact .inr (.one HD.out)
              · exact .inr ((Leads.one HD.out).trans h), (HK.out.trans HK3.out).trans hk4⟩
            clear hu4 hv4 hm4 hd4 hs4 hk4
            go_wp2_with fail
            go_roundw
            case rel => exact ⟨k + 1, by omega, by go_num, HR.out⟩
            case measure => simp [intOf]; omega
          · obtain rfl := HU.out.sb tb u hst
            rw [hst] at hls
            simp only [Option.getD_some, Bool.false_eq_true, if_false] at hls
            have hyes : seenS lO' tb := by unfold seenS; rw [hst]; rfl
            have HR : Hid (∀ w3, Below wr.heap.size wr w3 → UseLoop ct co cv g b bo M (fun u => A u ∨ u = name) lO name ns w2 (k + 1) w3) := Lib.hid fun w3 hb => ⟨lO', HU.out.below hb, HUV.out, HMO.out, fun u hu hd => by
              rw [HT.out] at hu
              rcases List.mem_append.1 hu with hu | hu
              · exact HDO.out u hu hd
              · rw [List.mem_singleton] at hu; subst hu
                rw [HTB.out]; exact hyes, HSO.out, HK.out.trans (.of_below hb)⟩
            clear h1 h2 hyes hst hxm hxn hpq hx
            go_wp2_with fail
            go_roundw
            case rel => exact ⟨k + 1, by omega, by go_num, HR.out _ (by (repeat (first | exact Below.refl _ _ | refine Below.drew ?_ | (refine below_gw' ?_ (by first | omega | (simp [go_sem]; done) | (simp [go_sem]; omega)) _) | (refine Below.alloc ?_ (by first | omega | (simp [go_sem]; done) | (simp [go_sem]; omega)) _) | (refine Below.setCell ?_ (by first | omega | (simp [go_sem]; done) | (simp [go_sem]; omega)) _))))⟩
            case measure => simp [intOf]; omega
      · obtain rfl : k = ns.length := by omega
        clear huw huv hmono hdone hsound hk2 hck
        go_wp2_with fail
        go_end0
        have hall : ∀ t, Dep (M.map Prod.fst) name t → seenS lO' t := fun t hd => by
          obtain ⟨h1, h2⟩ := (HDEP.out t).1 hd
          have := HDO.out t.data.toList (by rw [List.take_length]; exact h1) h2
          exact this
        refine ⟨rfl, lO', HU.out, fun u v hu hna hd => ?_, HMO.out, hall, HSO.out, (Kb.of_below HB2.out).trans HK.out⟩
        by_cases e : u = name
        · subst e; exact hall v hd
        · exact HUV.out u v hu (fun h => h.elim hna e) hd
end Go.Proofs.YtnjpfhihbjihbaaGreatDoor

/- (*symbols.Table).Uses. -/
namespace Go.Proofs.YtnjpfhihbjihbaaGreatDoor
open Go.RowKit Go.Sort

open Go.ChangeMaps
/-- What Uses leaves: the sorted keys of a set. -/
def UsRes (L : List Sy) (names : List (List UInt8)) (w : World) (e : Ending) (w' : World) : Prop :=
  ∃ lO : List (ByteArray × Value), NmRes (lO.map fun x => x.1.data.toList) w e w' ∧ (lO.map Prod.fst).Nodup ∧ lO.length ≤ L.length ∧ ∀ t, seenS lO t ↔ ∃ nm ∈ names, Leads L ⟨nm.toArray⟩ t
set_option maxHeartbeats 1000000 in
theorem uses_nil (v : Value) (w : World) : Calls Tryz.prog 24 #[.pointer none, v] w fun e w' => e = .returned (.slice none 0 0) ∧ Below w.heap.size w w' := by
  go_enter Tryz.func24, Tryz.ntmps24
  go_wp2_with fail
  go_ret
  exact ⟨rfl, by (repeat (first | exact Below.refl _ _ | refine Below.drew ?_ | (refine below_gw' ?_ (by first | omega | (simp [go_sem]; done) | (simp [go_sem]; omega)) _) | (refine Below.alloc ?_ (by first | omega | (simp [go_sem]; done) | (simp [go_sem]; omega)) _) | (refine Below.setCell ?_ (by first | omega | (simp [go_sem]; done) | (simp [go_sem]; omega)) _)))⟩
theorem us_init (g b : Nat) (M : List (Sy × Value)) (w : World) (hT : TabIn w g b M) : UseW (((((w.alloc (.cells #[.pointer (some ⟨g, 0, none⟩)] 25)).alloc (.map #[] 0)).alloc (.cells #[.map (some (w.heap.size + 1))] 98)).alloc (.cells #[.func (.func 54) #[] #[.pointer (some ⟨w.heap.size, 0, none⟩), .pointer (some ⟨w.heap.size + 1 + 1, 0, none⟩), .pointer (some ⟨w.heap.size + 1 + 1 + 1, 0, none⟩)]] 99))) w.heap.size (w.heap.size + 1 + 1) (w.heap.size + 1 + 1 + 1) g b (w.heap.size + 1) M [] := by
  have hb := hT.map.lt
  refine ⟨by simp [go_sem], by simp [go_sem], by simp [go_sem], hT.below (by (repeat (first | exact Below.refl _ _ | refine Below.drew ?_ | (refine below_gw' ?_ (by first | omega | (simp [go_sem]; done) | (simp [go_sem]; omega)) _) | (refine Below.alloc ?_ (by first | omega | (simp [go_sem]; done) | (simp [go_sem]; omega)) _) | (refine Below.setCell ?_ (by first | omega | (simp [go_sem]; done) | (simp [go_sem]; omega)) _)))), .new ?_, fun t v h => by (cases h), by omega⟩
  show (Array.push (Array.push (Array.push (Array.push w.heap _) _) _) _)[_]? = _
  simp only [Array.getElem?_push, Array.size_push]
  repeat (first | rw [if_neg (by omega)] | rw [if_pos (by omega)] | rw [if_pos trivial])
/-- What holds at the head of the loop of Uses. -/
def UsLoop (ct co cv g b bo : Nat) (M : List (Sy × Value)) (names : List (List UInt8)) (w : World) (k : Nat) (wr : World) : Prop :=
  ∃ lO, UseW wr ct co cv g b bo M lO ∧ UInv (M.map Prod.fst) (fun _ => False) (seenS lO) ∧ (∀ nm ∈ names.take k, ∀ t, Dep (M.map Prod.fst) ⟨nm.toArray⟩ t → seenS lO t) ∧ (∀ t, seenS lO t → ∃ nm ∈ names.take k, Leads (M.map Prod.fst) ⟨nm.toArray⟩ t) ∧ Below w.heap.size w wr
theorem seen_mem (l : List (ByteArray × Value)) (t : ByteArray) : seenS l t ↔ t ∈ l.map Prod.fst := by
  unfold seenS
  constructor
  · intro h
    obtain ⟨v, hv⟩ := Option.isSome_iff_exists.1 h
    exact List.mem_map_of_mem (f := Prod.fst) (sget_mem hv)
  · intro h
    rcases hs : sget l t with _ | v
    · obtain ⟨x, hx, e⟩ := List.mem_map.1 h
      exact absurd e (sget_none hs x hx)
    · rfl
theorem leads_def {L : List Sy} {a b : ByteArray} (h : Leads L a b) : ∃ s, sfindS L b = some s := by
  cases h with
  | one d => obtain ⟨_, _, _, h⟩ := d; exact h
  | more _ d => obtain ⟨_, _, _, h⟩ := d; exact h
set_option maxHeartbeats 4000000 in
set_option maxRecDepth 100000 in
theorem uses_any (g b : Nat) (M : List (Sy × Value)) (hok : ∀ x ∈ M, SyOk x.1) (hM : M.length ≤ 1000) (hnm : ∀ x ∈ M, x.1.name.size ≤ 1000) (names : List (List UInt8)) (hlen : names.length ≤ 1000000) (v : Value) (w : World) (hT : TabIn w g b M) (hr : Row w v names.length (names.map Proofs.encStr)) :
    Calls Tryz.prog 24 #[.pointer (some ⟨g, 0, none⟩), v] w (UsRes (M.map Prod.fst) names w) := by
  have hg : g < w.heap.size := lt_of_block hT.head
  have hmk : ∀ w : World, (Instr.makeMap 98 none).run Tryz.prog w = .ok (.map (some w.heap.size)) (w.alloc (.map #[] 0)) := fun w => by simp [Instr.makeMap]
  have hin := us_init g b M w hT
  obtain ⟨a, cap, rfl, hcap, hc⟩ := hr.strs
  have hl1 : (names.length : Int) ≤ 1000000 := by omega
  have hc1 : (names.length : Int) ≤ (cap : Int) := by omega
  have hnd := hT.nodup
  have HT := Lib.hid hT
  have HIN := Lib.hid hin
  have HC := Lib.hid hc
  have HOK := Lib.hid hok
  have HNM := Lib.hid hnm
  clear hin hc hr hT hok hnm
  go_enter Tryz.func24, Tryz.ntmps24
  go_wp2_with fail
  go_loopw [15] (fun i wr => ∃ k : Nat, k ≤ names.length ∧ i = .int .i64 k ∧ UsLoop w.heap.size (w.heap.size + 1 + 1) (w.heap.size + 1 + 1 + 1) g b (w.heap.size + 1) M names w k wr) (fun i _ => names.length - (intOf i).toNat)
  case atStart => exact ⟨0, Nat.zero_le _, rfl, [], HIN.out, fun u v h => by simp [seenS, sget] at h, fun nm h => by simp at h, fun t h => by simp [seenS, sget] at h, by (repeat (first | exact Below.refl _ _ | refine Below.drew ?_ | (refine below_gw' ?_ (by first | omega | (simp [go_sem]; done) | (simp [go_sem]; omega)) _) | (refine Below.alloc ?_ (by first | omega | (simp [go_sem]; done) | (simp [go_sem]; omega)) _) | (refine Below.setCell ?_ (by first | omega | (simp [go_sem]; done) | (simp [go_sem]; omega)) _)))⟩
  case round =>
    obtain ⟨k, hk, rfl, lO, huw, huv, hdone, hsound, hbel⟩ := hrel
    have d4 := huw.o
    have d5 := huw.v
    have l4 := cell_lt d4
    have l5 := cell_lt d5
    have HU := Lib.hid huw
    have HUV := Lib.hid huv
    have HDO := Lib.hid hdone
    have HSO := Lib.hid hsound
    have HBEL := Lib.hid hbel
    clear HIN hmk
    by_cases hlt : k < names.length
    · obtain ⟨t, ht⟩ : ∃ t, names[k]? = some t := ⟨_, List.getElem?_eq_getElem hlt⟩
      obtain ⟨gr, o, rfl, hgr, hcs⟩ := HC.out (by rintro rfl; simp at ht)
      have f0 := (hbel.cell (p := ⟨gr, o + k, none⟩) hgr).trans (hcs k t ht)
      have HS : Hid (names.take (k + 1) = names.take k ++ [t]) := Lib.hid (by rw [List.take_add_one, ht]; rfl)
      have hcall := use_any _ _ _ _ _ _ M HOK.out _ ⟨t.toArray⟩ (fun _ => False) wr lO (Nat.le_refl _) HU.out (fun u v hu hna hd => HUV.out u v hu (fun h => h) hd)
      have HCALL := Lib.hid hcall
      have hi0 : (0 : Int) ≤ (k : Int) := by omega
      have hi1 : (k : Int) < (names.length : Int) := by omega
      have l3 := cell_lt f0
      clear huw huv hdone hsound hbel hcs hcall ht
      go_wp2_with fail
      (with_reducible refine HCALL.out.mono ?_)
      rintro e w4 ⟨rfl, lO4, hu4, hv4, hm4, hd4, hs4, hk4⟩
      have HR : Hid (UsLoop w.heap.size (w.heap.size + 1 + 1) (w.heap.size + 1 + 1 + 1) g b (w.heap.size + 1) M names w (k + 1) w4) := Lib.hid ⟨lO4, hu4, hv4, fun nm hn u hd => by
        rw [HS.out] at hn
        rcases List.mem_append.1 hn with hn | hn
        · exact hm4 u (HDO.out nm hn u hd)
        · rw [List.mem_singleton] at hn; subst hn; exact hd4 u hd, fun u hu => by
        rw [HS.out]
        rcases hs4 u hu with h | h
        · obtain ⟨nm, hn, hl⟩ := HSO.out u h
          exact ⟨nm, List.mem_append.2 (.inl hn), hl⟩
        · exact ⟨t, by simp, h⟩, HBEL.out.trans (hk4.low (by omega) HBEL.out.size)⟩
      clear hu4 hv4 hm4 hd4 hs4 hk4
      go_wp2_with fail
      go_roundw
      case rel => exact ⟨k + 1, by omega, by go_num, HR.out⟩
      case measure => simp [intOf]; omega
    · obtain rfl : k = names.length := by omega
      rw [List.take_length] at hdone hsound
      have hiff : ∀ t, seenS lO t ↔ ∃ nm ∈ names, Leads (M.map Prod.fst) ⟨nm.toArray⟩ t := fun t => by
        constructor
        · exact hsound t
        · rintro ⟨nm, hn, hl⟩
          induction hl with
          | one d => exact hdone nm hn _ d
          | more _ d ih => exact huv _ _ ih (fun h => h) d
      have hlen2 : lO.length ≤ M.length := by
        have h1 := nodup_len huw.om.nodup (m := (M.map Prod.fst).map Sy.name) fun t ht => by
          obtain ⟨nm, _, hl⟩ := (hiff t).1 ((seen_mem lO t).2 ht)
          obtain ⟨s, hs⟩ := leads_def hl
          obtain ⟨h1, h2⟩ := sfindS_some hs
          rw [← h2]; exact List.mem_map_of_mem h1
        simpa using h1
      have hsize : ∀ x ∈ lO, x.1.size ≤ maxLen := fun x hx => by
        obtain ⟨nm, _, hl⟩ := (hiff x.1).1 ((seen_mem lO x.1).2 (List.mem_map_of_mem (f := Prod.fst) hx))
        obtain ⟨s, hs⟩ := leads_def hl
        obtain ⟨h1, h2⟩ := sfindS_some hs
        obtain ⟨y, hy, e⟩ := List.mem_map.1 h1
        have := HNM.out y hy
        rw [← h2, ← e]; unfold maxLen; omega
      have hsizeW := hbel.size
      obtain ⟨D, hown, hsz, hperm⟩ := huw.om.own (P := Tryz.prog) Tryz.underlying9 (by unfold maxLen; omega) hsize
      have hkeys := fun w => callsIn_wide.1 (Tryz.maps_Keys_55 (some (w.heap.size)) w)
      have hkeys2 := fun w0 => callsIn_wide.1 (Tryz.maps_Keys_55 (some (w.heap.size + 1)) w0)
      have hsort := callsIn_wide.1 (Tryz.slices_Sorted_keys_50_55 (w.heap.size + 1) _ D noRead wr hown (by rw [hsz]; unfold maxLen; omega) (by rw [hsz]; omega))
      have HP := Lib.hid (sortL_perm hperm)
      have HK := Lib.hid hkeys2
      have HS := Lib.hid hsort
      have HND := Lib.hid huw.om.nodup
      have HIFF := Lib.hid hiff
      clear hkeys hkeys2 hsort hperm hown hsz huw huv hdone hsound hsize hiff hnd
      go_wp2_with fail
      (with_reducible refine (HK.out _).mono ?_)
      rintro e w1 ⟨rfl, rfl⟩
      go_wp2_with fail
      (with_reducible refine HS.out.mono ?_)
      rintro e w2 ⟨v, ss, rfl, hperm, hrow, hnil, hb⟩
      have hss : sortL ss = sortL (lO.map fun x => x.1.data.toList) := by rw [← HP.out]; exact sortL_perm hperm
      have HSS := Lib.hid hss
      have HROW := Lib.hid hrow
      have HNIL := Lib.hid hnil
      have HB : Hid (Below w.heap.size w w2) := Lib.hid (HBEL.out.trans (Below.mono (Below.trans (b := wr.alloc (.cells #[.map (some (w.heap.size + 1))] 98)) (show Below wr.heap.size wr _ by (repeat (first | exact Below.refl _ _ | refine Below.drew ?_ | (refine below_gw' ?_ (by first | omega | (simp [go_sem]; done) | (simp [go_sem]; omega)) _) | (refine Below.alloc ?_ (by first | omega | (simp [go_sem]; done) | (simp [go_sem]; omega)) _) | (refine Below.setCell ?_ (by first | omega | (simp [go_sem]; done) | (simp [go_sem]; omega)) _)))) (hb.mono (by show _ ≤ (wr.heap.push _).size; simp))) hsizeW))
      clear hss hrow hnil hb hperm
      go_wp2_with fail
      go_ret
      refine ⟨lO, ⟨v, rfl, ?_, ?_, HB.out⟩, HND.out, by rw [List.length_map]; exact hlen2, HIFF.out⟩
      · rw [← HSS.out, sortL_len]
        exact own_base HROW.out (by show _ ≤ (wr.heap.push _).size; simp; omega)
      · rw [HNIL.out, ← HSS.out]
        constructor
        · rintro rfl; exact List.eq_nil_of_length_eq_zero (sortL_len [])
        · intro h
          have := sortL_len ss
          rw [h] at this
          exact List.eq_nil_of_length_eq_zero (by simpa using this.symm)
end Go.Proofs.YtnjpfhihbjihbaaGreatDoor
