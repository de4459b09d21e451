/- Joined texts: UsesQ, TabsU. -/
import Derived.Test.YtnjpfhihbjihbaaGreatDoorS36
import Derived.Test.YtnjpfhihbjihbaaGreatDoorS39
import Derived.Test.YtnjpfhihbjihbaaGreatDoorS41
import Derived.Deep.RegionHeld3
/- breadboardref20.Uses: the walk. -/
namespace Go.Proofs.YtnjpfhihbjihbaaGreatDoor
open Go.RowKit Go.Sort

theorem encs (s : ByteArray) : Proofs.encStr s.data.toList = .string s := by
  show Value.string ⟨s.data.toList.toArray⟩ = .string s
  simp
/-- What the reference's Uses leaves. -/
def RUseRes (L : List Sy) (names : List (List UInt8)) (w : World) (e : Ending) (w' : World) : Prop := ∃ vo out, e = .returned vo ∧ w'.ownsRow w.heap.size 9 1 vo out.length (out.map Proofs.encStr) ∧ (out = [] → vo = .slice none 0 0) ∧ out.Nodup ∧ out.length ≤ L.length ∧ (∀ t : ByteArray, t.data.toList ∈ out ↔ ∃ nm ∈ names, Leads L ⟨nm.toArray⟩ t) ∧ Below w.heap.size w w'
/-- At the head of the outer loop. -/
def RULoop (L : List Sy) (names : List (List UInt8)) (B : Nat) (w : World) (i : Nat) (vo vw : Value) (wr : World) : Prop := ∃ out, Three wr B vo vw (.slice none 0 0) out (names ++ out) [] ∧ RU L names out i ∧ i ≤ (names ++ out).length ∧ Below w.heap.size w wr
/-- At the head of the inner loop. -/
def RUiLoop (L : List Sy) (names ns : List (List UInt8)) (nm : List UInt8) (B : Nat) (w : World) (i k : Nat) (vn vo vw : Value) (wr : World) : Prop := ∃ out, Three wr B vo vw vn out (names ++ out) ns ∧ RUin L names out i nm ns k ∧ (names ++ out)[i]? = some nm ∧ Below w.heap.size w wr
set_option maxHeartbeats 4000000 in
set_option maxRecDepth 100000 in
theorem ruses_any (R : List (Sy × Value)) (hok : ∀ x ∈ R, SyOk x.1) (hl : R.length ≤ 1000) (names : List (List UInt8)) (hnl : names.length ≤ 1000) (v vn : Value) (w : World) (hRT : RTab w v R) (hrn : Row w vn names.length (names.map Proofs.encStr)) (hsh : vn = .slice none 0 0 ∨ ∃ ad n c, vn = .slice (some ad) n c) :
    Calls Tryz.prog 23 #[v, vn] w (RUseRes (R.map Prod.fst) names w) := by
  obtain ⟨i0, hi, hz0, hz1, hz2⟩ := info_parts Tryz.infoString
  obtain ⟨a, cap, rfl, hcap, hc⟩ := hRT.parts
  have hl1 : (R.length : Int) ≤ 1000 := by omega
  have hc1 : (R.length : Int) ≤ (cap : Int) := by omega
  have HC := Lib.hid hc
  have HRT := Lib.hid hRT
  have HOK := Lib.hid hok
  have HRN := Lib.hid hrn
  have HSH := Lib.hid hsh
  have hLl : (R.map Prod.fst).length = R.length := by simp
  have HLL := Lib.hid hLl
  obtain ⟨L, hLF⟩ : ∃ L, R.map Prod.fst = L := ⟨_, rfl⟩
  have HLF := Lib.hid hLF
  have HGET : Hid (∀ (k : Nat) (x : Sy × Value), R[k]? = some x → (R.map Prod.fst)[k]? = some x.1) := Lib.hid fun k x h => by rw [List.getElem?_map, h]; rfl
  clear hc hRT hok hrn hsh hLl
  rw [hLF] at HLL HGET ⊢
  clear hLF
  go_enter Tryz.func23, Tryz.ntmps23
  go_wp2_with (at_builtin; refine wpList_append_src rfl _ _ 45 rfl w.heap.size 9 i0 (.string ⟨#[]⟩) 1 16 Tryz.underlying45 hi hz0 hz1 hz2 rfl (by decide) _ 0 [] rfl (own_empty (alloc_at' _ _) (Nat.le_refl _)) _ names.length (names.map Proofs.encStr) rfl (src_strs (HRN.out.below (by (repeat (first | exact Below.refl _ _ | refine Below.drew ?_ | (refine below_gw' ?_ (by first | omega | (simp [go_sem]; done) | (simp [go_sem]; omega)) _) | (refine Below.alloc ?_ (by first | omega | (simp [go_sem]; done) | (simp [go_sem]; omega)) _) | (refine Below.setCell ?_ (by first | omega | (simp [go_sem]; done) | (simp [go_sem]; omega)) _))))) HSH.out) (by rw [List.length_map, Nat.mul_one]) (enc_one _) (by unfold maxLen; omega) (by omega) (by (first | omega | (simp [go_sem]; done) | (simp [go_sem]; omega))) ?_)
  intro v1 w1 hown1 hg1 hn1
  try simp only [Nat.zero_add, List.nil_append] at hown1
  have hb1 : Below w.heap.size w w1 := Below.grown (show Below w.heap.size w _ by (repeat (first | exact Below.refl _ _ | refine Below.drew ?_ | (refine below_gw' ?_ (by first | omega | (simp [go_sem]; done) | (simp [go_sem]; omega)) _) | (refine Below.alloc ?_ (by first | omega | (simp [go_sem]; done) | (simp [go_sem]; omega)) _) | (refine Below.setCell ?_ (by first | omega | (simp [go_sem]; done) | (simp [go_sem]; omega)) _)))) hg1 (by (first | omega | (simp [go_sem]; done) | (simp [go_sem]; omega))) (fun q hq => by have h := Option.some.inj hq; dsimp only at h; omega)
  have H0 : Hid (RULoop L names w.heap.size w 0 (.slice none 0 0) v1 w1) := Lib.hid ⟨[], ⟨World.ownsRow_nil _ _ _ _, fun _ => rfl, by rw [List.append_nil]; exact hown1, World.ownsRow_nil _ _ _ _, (fun g h => by cases h), (fun g h => by cases h), fun g h e => by cases e⟩, RU.start L names, Nat.zero_le _, hb1⟩
  clear hown1 hg1 hn1 hb1
  go_wp2_with fail
  go_loopw [5, 6, 7] (fun u s i wr => ∃ k : Nat, i = .int .i64 k ∧ RULoop L names w.heap.size w k u s wr) (fun _ _ i _ => names.length + 1000 + 1 - (intOf i).toNat)
  case atStart => exact ⟨0, rfl, H0.out⟩
  case round =>
    obtain ⟨k, rfl, out, hth, hru, hki, hbel⟩ := hrel
    have hol := hru.len
    have hLl := HLL.out
    obtain ⟨wait, hwt⟩ : ∃ x, names ++ out = x := ⟨_, rfl⟩
    have hwl : wait.length = names.length + out.length := by rw [← hwt, List.length_append]
    rw [hwt] at hth hki
    have HWT := Lib.hid hwt
    have HTH := Lib.hid hth
    have HRU := Lib.hid hru
    have HBEL := Lib.hid hbel
    have hszr := hbel.size
    have HWL := Lib.hid hwl
    have hw2 : wait.length ≤ 3000 := by omega
    have ho2 : out.length ≤ 1000 := by omega
    have hk2 : k ≤ names.length + 1000 := by omega
    obtain ⟨aw, capw, rfl, hcapw, hcw⟩ := (Row.of_owns hth.wt).strs
    have hww : (wait.length : Int) ≤ 3000 := by omega
    have hwc : (wait.length : Int) ≤ (capw : Int) := by omega
    have HCW := Lib.hid hcw
    clear hth hru hbel hcw H0 hwl hol hwt
    by_cases hlt : k < wait.length
    · obtain ⟨nm, hnm⟩ : ∃ nm, wait[k]? = some nm := ⟨_, List.getElem?_eq_getElem hlt⟩
      obtain ⟨gw_, ow_, rfl, hgw, hcsw⟩ := HCW.out (by intro e; rw [e] at hnm; simp at hnm)
      have f0 := hcsw k nm hnm
      obtain ⟨nb, hnb⟩ : ∃ nb : ByteArray, (⟨nm.toArray⟩ : ByteArray) = nb := ⟨_, rfl⟩
      rw [hnb] at f0
      have HNB := Lib.hid hnb
      have hi0 : (0 : Int) ≤ (k : Int) := by omega
      have hi1 : (k : Int) < (wait.length : Int) := by omega
      have hfi := find20_any R nb (.slice a R.length cap) wr (HRT.out.below HBEL.out) (by omega)
      rw [HLF.out] at hfi
      have hng := sidx_neg L nb
      have hat := sidx_at L nb
      have hslt := sidx_lt L nb
      generalize sidx L nb = sx at hfi hng hat hslt
      have HFI := Lib.hid hfi
      have HNM : Hid ((names ++ out)[k]? = some nm) := Lib.hid (by rw [HWT.out]; exact hnm)
      clear hfi hnb hcsw hnm HCW
      by_cases hs : sx < 0
      · have hnone := hng.1.1 hs
        have HR : Hid (RU L names out (k + 1)) := Lib.hid (HRU.out.into nm [] |>.outof (k := 0) (Nat.le_refl _) HNM.out (fun t hd => by
          obtain ⟨s, hs2, _⟩ := hd
          rw [HNB.out, hnone] at hs2; cases hs2))
        clear hng hat hnone
        go_wp2_with fail
        (with_reducible refine HFI.out.mono ?_)
        rintro e w3 ⟨rfl, hb3⟩
        have HL : Hid (RULoop L names w.heap.size w (k + 1) u5 (.slice (some ⟨gw_, ow_, none⟩) wait.length capw) w3) := Lib.hid ⟨out, by rw [HWT.out]; exact HTH.out.below hb3, HR.out, by rw [HWT.out]; exact hlt, HBEL.out.trans (hb3.mono hszr)⟩
        clear hb3
        go_wp2_with fail
        go_roundw
        case rel => exact ⟨k + 1, by go_num, HL.out⟩
        case measure => simp [intOf]; omega
      · obtain ⟨s, hget, hfs⟩ := hat (by omega)
        obtain ⟨q, rfl⟩ : ∃ q : Nat, (q : Int) = sx := ⟨sx.toNat, by omega⟩
        rw [Int.toNat_natCast] at hget
        have hqR : q < R.length := by omega
        obtain ⟨x, hx⟩ : ∃ x, R[q]? = some x := ⟨_, List.getElem?_eq_getElem hqR⟩
        have hxs := HGET.out q x hx
        rw [hget] at hxs; cases hxs
        obtain ⟨gr, o, rfl, hgr, hcs⟩ := HC.out (by rintro rfl; simp at hx)
        have f2 := (HBEL.out.cell (p := ⟨gr, o + q * 5 + 2, none⟩) hgr).trans (hcs q x hx).2.2.1
        have hxo := (HRT.out.2 x (List.mem_of_getElem? hx)).below HBEL.out
        have hxk := HOK.out x (List.mem_of_getElem? hx)
        have hno : oNodes x.1.ex ≤ 1000000 := by
          rcases he : x.1.ex with _ | y
          · exact Nat.zero_le _
          · exact (hxk.2.2 y he).2
        obtain ⟨px, hpx⟩ := hxo.ptr
        rw [hpx] at f2 hxo
        have hDEP : ∀ t, Dep L ⟨nm.toArray⟩ t → t.data.toList ∈ oSyms x.1.ex := fun t hd => by
          obtain ⟨s, hs2, hb, _⟩ := hd
          rw [HNB.out, hfs] at hs2; cases hs2
          unfold Sy.syms at hb
          rcases he : x.1.ex with _ | y
          · rw [he] at hb; cases hb
          · rw [he] at hb; exact List.mem_map_of_mem hb
        have hDEP2 : ∀ t ∈ oSyms x.1.ex, (∃ s, sfindS L ⟨t.toArray⟩ = some s) → Dep L ⟨nm.toArray⟩ ⟨t.toArray⟩ := fun t ht hd => by
          refine ⟨x.1, by rw [HNB.out]; exact hfs, ?_, hd⟩
          unfold Sy.syms
          rcases he : x.1.ex with _ | y
          · rw [he] at ht; simp [oSyms] at ht
          · rw [he] at ht
            obtain ⟨b, hb, rfl⟩ := List.mem_map.1 ht
            simpa using hb
        have hrn := fun w3 (hb : Below wr.heap.size wr w3) => rnames17_any (oNodes x.1.ex) x.1.ex (Nat.le_refl _) hno (.pointer px) w3 (hxo.below hb)
        unfold RNRes at hrn
        have hnsl := Nat.le_trans (oSyms_len x.1.ex) hno
        generalize oSyms x.1.ex = ns at hrn hDEP hDEP2 hnsl
        have HRNM := Lib.hid hrn
        have HDEP := Lib.hid hDEP
        have HDEP2 := Lib.hid hDEP2
        have hq0 : (0 : Int) ≤ (q : Int) := by omega
        have hq1 : (q : Int) < (R.length : Int) := by omega
        have hgr2 : gr < wr.heap.size := Nat.lt_of_lt_of_le hgr hszr
        have HHLT := Lib.hid hlt
        clear hrn hDEP hDEP2 hng hat hslt hcs hx hget hfs hxo hxk hno hpx
        go_wp2_with fail
        (with_reducible refine HFI.out.mono ?_)
        rintro e w3 ⟨rfl, hb3⟩
        have f2' := (hb3.cell (p := ⟨gr, o + q * 5 + 2, none⟩) hgr2).trans f2
        have HB3 := Lib.hid hb3
        clear hb3 f0 f2
        go_wp2_with fail
        (with_reducible refine (HRNM.out _ HB3.out).mono ?_)
        rintro e w4 ⟨vns, rfl, hown4, _, hb4⟩
        have hbw4 : Below wr.heap.size wr w4 := HB3.out.trans (hb4.mono HB3.out.size)
        have hth4 := HTH.out.below hbw4
        have hth5 : Three w4 w.heap.size u5 (.slice (some ⟨gw_, ow_, none⟩) wait.length capw) vns out wait ns := ⟨hth4.o, hth4.nil, hth4.wt, own_base hown4 (Nat.le_trans hszr HB3.out.size), hth4.ow, fun g hg e => by
          have a1 := blk_lt HTH.out.o g hg
          have a2 := own_low hown4 g e
          have a3 := HB3.out.size
          omega, fun g hg e => by
          have a1 := blk_lt HTH.out.wt g hg
          have a2 := own_low hown4 g e
          have a3 := HB3.out.size
          omega⟩
        obtain ⟨an, capn, rfl, hcapn, hcn⟩ := (Row.of_owns hown4).strs
        have hni : (ns.length : Int) ≤ 1000000 := by omega
        have hnc : (ns.length : Int) ≤ (capn : Int) := by omega
        have HS4 : Hid (RUiLoop L names ns nm w.heap.size w k 0 (.slice an ns.length capn) u5 (.slice (some ⟨gw_, ow_, none⟩) wait.length capw) w4) := Lib.hid ⟨out, by rw [HWT.out]; exact hth5, HRU.out.into nm ns, HNM.out, HBEL.out.trans (hbw4.mono hszr)⟩
        clear hb4 hbw4 hth4 hth5 hown4 hcn f2' HTH HRU HNM HWT HWL hgr2 hi0 hi1 hww hwc hw2 ho2 hki hcapw hlt hgw HFI HRNM HB3
        go_wp2_with fail
        go_loopw [5, 6, 10] (fun u s i w5 => ∃ m : Nat, m ≤ ns.length ∧ i = .int .i64 m ∧ RUiLoop L names ns nm w.heap.size w k m (.slice an ns.length capn) u s w5) (fun _ _ i _ => ns.length - (intOf i).toNat)
        case atStart => exact ⟨0, Nat.zero_le _, rfl, HS4.out⟩
        case round =>
          obtain ⟨m, hm, rfl, out, hth, hrin, hnm5, hbel5⟩ := hrel
          have hol := hrin.ru.len
          have hLl2 := HLL.out
          obtain ⟨wait, hwt⟩ : ∃ x, names ++ out = x := ⟨_, rfl⟩
          have hwl : wait.length = names.length + out.length := by rw [← hwt, List.length_append]
          rw [hwt] at hth
          have hw2 : wait.length ≤ 3000 := by omega
          have ho2 : out.length ≤ 1000 := by omega
          clear hwl hol hLl2
          have HWT := Lib.hid hwt
          have HTH := Lib.hid hth
          have HRI := Lib.hid hrin
          have HNM := Lib.hid hnm5
          have HBEL5 := Lib.hid hbel5
          have hsz5 := hbel5.size
          by_cases hlm : m < ns.length
          · obtain ⟨t, ht⟩ : ∃ t, ns[m]? = some t := ⟨_, List.getElem?_eq_getElem hlm⟩
            obtain ⟨a2, c2, e2, _, hc2⟩ := (Row.of_owns hth.n).strs
            cases e2
            obtain ⟨gl, ol, rfl, hgl, hcl⟩ := hc2 (by intro e; rw [e] at ht; simp at ht)
            have f0 := hcl m t ht
            obtain ⟨tb, htb⟩ : ∃ tb : ByteArray, (⟨t.toArray⟩ : ByteArray) = tb := ⟨_, rfl⟩
            rw [htb] at f0
            have hten : Proofs.encStr t = .string tb := by rw [← htb]
            have htd : tb.data.toList = t := by rw [← htb]
            have HTEN := Lib.hid hten
            have HTB := Lib.hid htb
            have HT := Lib.hid ht
            have hm0 : (0 : Int) ≤ (m : Int) := by omega
            have hm1 : (m : Int) < (ns.length : Int) := by omega
            have hfi := find20_any R tb (.slice (some ⟨gr, o, none⟩) R.length cap) wr (HRT.out.below HBEL5.out) (by omega)
            rw [HLF.out] at hfi
            have hng := sidx_neg L tb
            generalize sidx L tb = sy at hfi hng
            have HFI := Lib.hid hfi
            have hin := fun w6 (hb : Below wr.heap.size wr w6) => in20_any out tb u5 w6 ((Row.of_owns hth.o).below hb) (by omega)
            rw [htd] at hin
            have HIN := Lib.hid hin
            clear hfi hin hth hrin hnm5 hbel5 hcl ht hten htb htd hwt hc2 HS4
            by_cases hs : sy < 0
            · have hnone := hng.1.1 hs
              have hR : RUin L names out k nm ns (m + 1) := HRI.out.skip HT.out (fun h => by
                obtain ⟨s, h⟩ := h
                rw [HTB.out, hnone] at h; cases h)
              have HR := Lib.hid hR
              have hge : ¬ 0 ≤ sy := by omega
              clear hng hnone hR
              go_wp2_with fail
              (with_reducible refine HFI.out.mono ?_)
              rintro e w6 ⟨rfl, hb6⟩
              have HL : Hid (RUiLoop L names ns nm w.heap.size w k (m + 1) (.slice (some ⟨gl, ol, none⟩) ns.length capn) u5 u6 w6) := Lib.hid ⟨out, by rw [HWT.out]; exact HTH.out.below hb6, HR.out, HNM.out, HBEL5.out.trans (hb6.mono hsz5)⟩
              clear hb6
              go_wp2_with fail
              go_roundw
              case rel => exact ⟨m + 1, by omega, by go_num, HL.out⟩
              case measure => simp [intOf]; omega
            · have hge : 0 ≤ sy := by omega
              have hdef : ∃ s, sfindS L tb = some s := by
                rcases hf : sfindS L tb with _ | s
                · exact absurd (hng.1.2 hf) (by omega)
                · exact ⟨s, rfl⟩
              have HDEF := Lib.hid hdef
              clear hng hdef
              by_cases hmem : t ∈ out
              · have hR : RUin L names out k nm ns (m + 1) := HRI.out.skip HT.out (fun _ => hmem)
                have HR := Lib.hid hR
                have hd : decide (t ∈ out) = true := by simpa using hmem
                rw [hd] at HIN
                clear hR hd hmem
                go_wp2_with fail
                (with_reducible refine HFI.out.mono ?_)
                rintro e w6 ⟨rfl, hb6⟩
                have f6 := (hb6.cell (p := ⟨gl, ol + m, none⟩) hgl).trans f0
                have HB6 := Lib.hid hb6
                clear hb6
                go_wp2_with fail
                (with_reducible refine (HIN.out _ HB6.out).mono ?_)
                rintro e w7 ⟨rfl, hb7⟩
                have HL : Hid (RUiLoop L names ns nm w.heap.size w k (m + 1) (.slice (some ⟨gl, ol, none⟩) ns.length capn) u5 u6 w7) := Lib.hid ⟨out, by rw [HWT.out]; exact (HTH.out.below HB6.out).below hb7, HR.out, HNM.out, (HBEL5.out.trans (HB6.out.mono hsz5)).trans (hb7.mono (Nat.le_trans hsz5 HB6.out.size))⟩
                clear hb7
                go_wp2_with fail
                go_roundw
                case rel => exact ⟨m + 1, by omega, by go_num, HL.out⟩
                case measure => simp [intOf]; omega
              · have hR : RUin L names (out ++ [t]) k nm ns (m + 1) := HRI.out.add HT.out hmem HNM.out (HDEP2.out t (List.mem_of_getElem? HT.out) (by rw [HTB.out]; exact HDEF.out))
                have HR := Lib.hid hR
                have hd : decide (t ∈ out) = false := by simpa using hmem
                rw [hd] at HIN
                clear hR hd hmem
                go_wp2_with fail
                (with_reducible refine HFI.out.mono ?_)
                rintro e w6 ⟨rfl, hb6⟩
                have f6 := (hb6.cell (p := ⟨gl, ol + m, none⟩) hgl).trans f0
                have hg6 : gl < w6.heap.size := Nat.lt_of_lt_of_le hgl hb6.size
                have hsz6 : w.heap.size ≤ w6.heap.size := Nat.le_trans hsz5 hb6.size
                have HTH6 := Lib.hid (HTH.out.below hb6)
                have HBEL6 : Hid (Below w.heap.size w w6) := Lib.hid (HBEL5.out.trans (hb6.mono hsz5))
                have HB6 := Lib.hid hb6
                clear hb6
                go_wp2_with fail
                (with_reducible refine (HIN.out _ HB6.out).mono ?_)
                rintro e w7 ⟨rfl, hb7⟩
                have f7 := (hb7.cell (p := ⟨gl, ol + m, none⟩) hg6).trans f6
                have hg7 : gl < w7.heap.size := Nat.lt_of_lt_of_le hg6 hb7.size
                have hsz7 : w.heap.size ≤ w7.heap.size := Nat.le_trans hsz6 hb7.size
                have HTH7 := Lib.hid (HTH6.out.below hb7)
                have HBEL7 : Hid (Below w.heap.size w w7) := Lib.hid (HBEL6.out.trans (hb7.mono hsz6))
                clear hb7 f6 f0 HTH6 HTH
                go_wp2_with (at_builtin; refine wpList_append_own_at _ rfl _ _ 45 rfl w.heap.size 9 i0 (.string ⟨#[]⟩) 1 16 Tryz.underlying45 hi hz0 hz1 hz2 rfl (by decide) u5 out.length (out.map Proofs.encStr) rfl (owns_below' HTH7.out.o (by (repeat (first | exact Below.refl _ _ | refine Below.drew ?_ | (refine below_gw' ?_ (by first | omega | (simp [go_sem]; done) | (simp [go_sem]; omega)) _) | (refine Below.alloc ?_ (by first | omega | (simp [go_sem]; done) | (simp [go_sem]; omega)) _) | (refine Below.setCell ?_ (by first | omega | (simp [go_sem]; done) | (simp [go_sem]; omega)) _))))) _ 1 1 [.string tb] rfl rfl (cell_one_new _ _ _) (fun u hu => by simp at hu; rcases hu with rfl; rfl) (by unfold maxLen; omega) (by omega) (Nat.le_trans hsz7 (Below.size (show Below w7.heap.size w7 _ by (repeat (first | exact Below.refl _ _ | refine Below.drew ?_ | (refine below_gw' ?_ (by first | omega | (simp [go_sem]; done) | (simp [go_sem]; omega)) _) | (refine Below.alloc ?_ (by first | omega | (simp [go_sem]; done) | (simp [go_sem]; omega)) _) | (refine Below.setCell ?_ (by first | omega | (simp [go_sem]; done) | (simp [go_sem]; omega)) _)))))) ?_)
                intro v8 w8 hown8 hgr8 hnl8 hbk8
                rw [← HTEN.out] at hown8
                have hth8 := (HTH7.out.below (show Below w7.heap.size w7 _ by (repeat (first | exact Below.refl _ _ | refine Below.drew ?_ | (refine below_gw' ?_ (by first | omega | (simp [go_sem]; done) | (simp [go_sem]; omega)) _) | (refine Below.alloc ?_ (by first | omega | (simp [go_sem]; done) | (simp [go_sem]; omega)) _) | (refine Below.setCell ?_ (by first | omega | (simp [go_sem]; done) | (simp [go_sem]; omega)) _))))).addO hown8 hgr8 (by rw [alloc_sz]; exact hbk8)
                have hbel8 : Below w.heap.size w w8 := Below.grown (HBEL7.out.trans (Below.mono (show Below w7.heap.size w7 _ by (repeat (first | exact Below.refl _ _ | refine Below.drew ?_ | (refine below_gw' ?_ (by first | omega | (simp [go_sem]; done) | (simp [go_sem]; omega)) _) | (refine Below.alloc ?_ (by first | omega | (simp [go_sem]; done) | (simp [go_sem]; omega)) _) | (refine Below.setCell ?_ (by first | omega | (simp [go_sem]; done) | (simp [go_sem]; omega)) _)))) hsz7)) hgr8 (Nat.le_trans hsz7 (Below.size (show Below w7.heap.size w7 _ by (repeat (first | exact Below.refl _ _ | refine Below.drew ?_ | (refine below_gw' ?_ (by first | omega | (simp [go_sem]; done) | (simp [go_sem]; omega)) _) | (refine Below.alloc ?_ (by first | omega | (simp [go_sem]; done) | (simp [go_sem]; omega)) _) | (refine Below.setCell ?_ (by first | omega | (simp [go_sem]; done) | (simp [go_sem]; omega)) _)))))) (own_low HTH7.out.o)
                obtain ⟨a3, c3, e3, _, hc3⟩ := (Row.of_owns hth8.n).strs
                cases e3
                obtain ⟨g3, o3, e4, hg8, hcl8⟩ := hc3 (by intro e; have := HT.out; rw [e] at this; simp at this)
                cases e4
                have f8 := hcl8 m t HT.out
                rw [HTB.out] at f8
                have hsz8 := hbel8.size
                have HTH8 := Lib.hid hth8
                have HBEL8 := Lib.hid hbel8
                clear hth8 hbel8 hown8 hgr8 hnl8 hbk8 hc3 hcl8 f7
                go_wp2_with (at_builtin; refine wpList_append_own_at _ rfl _ _ 45 rfl w.heap.size 9 i0 (.string ⟨#[]⟩) 1 16 Tryz.underlying45 hi hz0 hz1 hz2 rfl (by decide) u6 wait.length (wait.map Proofs.encStr) rfl (owns_below' HTH8.out.wt (by (repeat (first | exact Below.refl _ _ | refine Below.drew ?_ | (refine below_gw' ?_ (by first | omega | (simp [go_sem]; done) | (simp [go_sem]; omega)) _) | (refine Below.alloc ?_ (by first | omega | (simp [go_sem]; done) | (simp [go_sem]; omega)) _) | (refine Below.setCell ?_ (by first | omega | (simp [go_sem]; done) | (simp [go_sem]; omega)) _))))) _ 1 1 [.string tb] rfl rfl (cell_one_new _ _ _) (fun u hu => by simp at hu; rcases hu with rfl; rfl) (by unfold maxLen; omega) (by omega) (Nat.le_trans hsz8 (Below.size (show Below w8.heap.size w8 _ by (repeat (first | exact Below.refl _ _ | refine Below.drew ?_ | (refine below_gw' ?_ (by first | omega | (simp [go_sem]; done) | (simp [go_sem]; omega)) _) | (refine Below.alloc ?_ (by first | omega | (simp [go_sem]; done) | (simp [go_sem]; omega)) _) | (refine Below.setCell ?_ (by first | omega | (simp [go_sem]; done) | (simp [go_sem]; omega)) _)))))) ?_)
                intro v9 w9 hown9 hgr9 hnl9 hbk9
                rw [← HTEN.out] at hown9
                have hth9 := (HTH8.out.below (show Below w8.heap.size w8 _ by (repeat (first | exact Below.refl _ _ | refine Below.drew ?_ | (refine below_gw' ?_ (by first | omega | (simp [go_sem]; done) | (simp [go_sem]; omega)) _) | (refine Below.alloc ?_ (by first | omega | (simp [go_sem]; done) | (simp [go_sem]; omega)) _) | (refine Below.setCell ?_ (by first | omega | (simp [go_sem]; done) | (simp [go_sem]; omega)) _))))).addW hown9 hgr9 (by rw [alloc_sz]; exact hbk9)
                have hbel9 : Below w.heap.size w w9 := Below.grown (HBEL8.out.trans (Below.mono (show Below w8.heap.size w8 _ by (repeat (first | exact Below.refl _ _ | refine Below.drew ?_ | (refine below_gw' ?_ (by first | omega | (simp [go_sem]; done) | (simp [go_sem]; omega)) _) | (refine Below.alloc ?_ (by first | omega | (simp [go_sem]; done) | (simp [go_sem]; omega)) _) | (refine Below.setCell ?_ (by first | omega | (simp [go_sem]; done) | (simp [go_sem]; omega)) _)))) hsz8)) hgr9 (Nat.le_trans hsz8 (Below.size (show Below w8.heap.size w8 _ by (repeat (first | exact Below.refl _ _ | refine Below.drew ?_ | (refine below_gw' ?_ (by first | omega | (simp [go_sem]; done) | (simp [go_sem]; omega)) _) | (refine Below.alloc ?_ (by first | omega | (simp [go_sem]; done) | (simp [go_sem]; omega)) _) | (refine Below.setCell ?_ (by first | omega | (simp [go_sem]; done) | (simp [go_sem]; omega)) _)))))) (own_low HTH8.out.wt)
                have HL : Hid (RUiLoop L names ns nm w.heap.size w k (m + 1) (.slice (some ⟨gl, ol, none⟩) ns.length capn) v8 v9 w9) := Lib.hid ⟨out ++ [t], by rw [← List.append_assoc, HWT.out]; exact hth9, HR.out, by
                  rw [← List.append_assoc, List.getElem?_append_left (List.getElem?_eq_some_iff.1 HNM.out).1]; exact HNM.out, hbel9⟩
                clear hth9 hbel9 hown9 hgr9 hnl9 hbk9
                go_wp2_with fail
                go_roundw
                case rel => exact ⟨m + 1, by omega, by go_num, HL.out⟩
                case measure => simp [intOf]; omega
          · obtain rfl : m = ns.length := by omega
            have hru : RU L names out (k + 1) := HRI.out.outof (Nat.le_refl _) HNM.out HDEP.out
            have hkl := (List.getElem?_eq_some_iff.1 HNM.out).1
            have HL : Hid (RULoop L names w.heap.size w (k + 1) u5 u6 wr) := Lib.hid ⟨out, by rw [HWT.out]; exact ⟨hth.o, hth.nil, hth.wt, World.ownsRow_nil _ _ _ _, hth.ow, (fun g _ e => by cases e), fun g _ e => by cases e⟩, hru, hkl, HBEL5.out⟩
            clear hth hrin hnm5 hbel5 hru hkl hwt HS4
            go_wp2_with fail
            go_roundw
            case rel => exact ⟨k + 1, by go_num, HL.out⟩
            case measure => simp [intOf]; omega
    · have hkw : k = wait.length := by omega
      have hm := fun t => HRU.out.mem (by rw [HWT.out]; omega) t
      have hnd := HRU.out.nodup
      have hln := HRU.out.len
      have HF : Hid (RUseRes L names w (.returned u5) wr) := Lib.hid ⟨u5, out, rfl, HTH.out.o, HTH.out.nil, hnd, hln, hm, HBEL.out⟩
      clear hm hnd hln hkw
      go_wp2_with fail
      go_ret
      exact HF.out
end Go.Proofs.YtnjpfhihbjihbaaGreatDoor

/- Uses of two built tables. -/
namespace Go.Proofs.YtnjpfhihbjihbaaGreatDoor
open Go.RowKit Go.Sort

open Go.ChangeMaps
theorem data_inj {a b : ByteArray} (h : a.data.toList = b.data.toList) : a = b := ByteArray.ext (Array.ext' h)
theorem nodup_data {l : List ByteArray} (h : l.Nodup) : (l.map fun s => s.data.toList).Nodup := by
  induction l with
  | nil => exact List.nodup_nil
  | cons a l ih =>
    rw [List.nodup_cons] at h
    rw [List.map_cons, List.nodup_cons]
    refine ⟨fun hm => ?_, ih h.2⟩
    obtain ⟨b, hb, e⟩ := List.mem_map.1 hm
    exact h.1 (data_inj e ▸ hb)
/-- Contains: a name that is not in a row. -/
theorem contains_no (L : List (List UInt8)) (s : ByteArray) (v : Value) (w : World) (hr : Row w v L.length (L.map Proofs.encStr)) (hl : L.length ≤ 1000000) (hn : s.data.toList ∉ L) :
    Calls Tryz.prog 16 #[v, .string s] w fun e w' => e = .returned (.bool false) ∧ Below w.heap.size w w' := by
  obtain ⟨a, cap, rfl, hcap, hc⟩ := hr
  by_cases hL : L = []
  · subst hL
    refine (Tryz.slices_Contains_string_empty a cap s w).mono ?_
    rintro e w' ⟨he, rfl⟩
    exact ⟨he, Below.refl _ _⟩
  · obtain ⟨g, o, rfl, hg, hcc⟩ := hc (by simpa using hL)
    have hM : (L.map fun y => (⟨y.toArray⟩ : ByteArray)).length = L.length := by simp
    refine (Tryz.slices_Contains_string g o L.length cap (L.map fun y => (⟨y.toArray⟩ : ByteArray)) s w (by rw [hM]; exact Nat.le_refl _) (by omega) (fun j hj => (hcc j (by rw [List.length_map]; rw [hM] at hj; exact hj)).trans ?_)).mono ?_
    · rw [hM] at hj
      simp [List.getD, List.getElem?_eq_getElem hj, Proofs.encStr]
    · rintro e w' ⟨he, rfl⟩
      refine ⟨?_, Below.refl _ _⟩
      rw [he]
      congr 2
      rw [Bool.eq_false_iff]
      intro h
      rw [Lib.containsS_iff] at h
      have h := List.mem_of_mem_take h
      obtain ⟨y, hy, e⟩ := List.mem_map.1 h
      exact hn (by rw [← e]; exact hy)
theorem Tabs20P.uses {w : World} {g b : Nat} {rv : Value} {L : List Sy} {M R : List (Sy × Value)} (h : Tabs20P w g b rv L M R) (names : List (List UInt8)) (hl : names.length ≤ 1000000) (v : Value) (hr : Row w v names.length (names.map Proofs.encStr)) :
    Calls Tryz.prog 24 #[.pointer (some ⟨g, 0, none⟩), v] w (UsRes L names w) :=
  (uses_any g b M h.okM h.lenM h.nmM names hl v w h.ti hr).mono fun e w' ⟨lO, h1, h2, h3, h4⟩ => ⟨lO, h1, h2, by
    rw [h.hm, List.length_map] at h3; exact h3, fun t => by
    rw [h4, h.hm]
    simp only [norm_Leads]⟩
theorem Tabs20P.ruses {w : World} {g b : Nat} {rv : Value} {L : List Sy} {M R : List (Sy × Value)} (h : Tabs20P w g b rv L M R) (names : List (List UInt8)) (hl : names.length ≤ 1000) (v : Value) (hr : Row w v names.length (names.map Proofs.encStr)) (hs : v = .slice none 0 0 ∨ ∃ ad n c, v = .slice (some ad) n c) :
    Calls Tryz.prog 23 #[rv, v] w (RUseRes L names w) := by
  have := ruses_any R h.okR h.lenR names hl rv v w h.rt hr hs
  rw [h.hr] at this
  exact this
/-- Both lists of names are the same when sorted. -/
theorem uses_eq {L : List Sy} {names out : List (List UInt8)} {lO : List (ByteArray × Value)} (h1 : (lO.map Prod.fst).Nodup) (h2 : ∀ t, seenS lO t ↔ ∃ nm ∈ names, Leads L ⟨nm.toArray⟩ t) (h3 : out.Nodup) (h4 : ∀ t : ByteArray, t.data.toList ∈ out ↔ ∃ nm ∈ names, Leads L ⟨nm.toArray⟩ t) : sortL out = sortL (lO.map fun x => x.1.data.toList) := by
  refine sortL_perm ((List.perm_ext_iff_of_nodup h3 ?_).2 fun x => ?_)
  · have := nodup_data h1
    rw [List.map_map] at this
    exact this
  · have e : x = (⟨x.toArray⟩ : ByteArray).data.toList := rfl
    rw [e, h4, ← h2, seen_mem]
    constructor
    · intro h
      obtain ⟨y, hy, e2⟩ := List.mem_map.1 h
      rw [List.mem_map]
      exact ⟨y, hy, by rw [e2]⟩
    · intro h
      obtain ⟨y, hy, e2⟩ := List.mem_map.1 h
      rw [List.mem_map]
      exact ⟨y, hy, data_inj e2⟩
theorem not_self {L : List Sy} {name : ByteArray} {q : Int} {lO : List (ByteArray × Value)} (hk : Kn L name = some q) (h : ∀ t, seenS lO t ↔ ∃ nm ∈ [name.data.toList], Leads L ⟨nm.toArray⟩ t) : name.data.toList ∉ sortL (lO.map fun x => x.1.data.toList) := fun hm => by
  rw [sortL_mem] at hm
  obtain ⟨y, hy, e⟩ := List.mem_map.1 hm
  have h1 := (h name).1 ((seen_mem lO name).2 (by rw [← data_inj e]; exact List.mem_map_of_mem (f := Prod.fst) hy))
  obtain ⟨nm, hn, hl⟩ := h1
  rw [List.mem_singleton] at hn
  subst hn
  rw [arr_eq] at hl
  rw [Kn_cycle hl] at hk
  cases hk
end Go.Proofs.YtnjpfhihbjihbaaGreatDoor
