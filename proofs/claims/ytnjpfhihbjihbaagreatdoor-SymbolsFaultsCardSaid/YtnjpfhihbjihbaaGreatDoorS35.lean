/- Joined texts: VisitA, SMapR. -/
import Derived.Test.YtnjpfhihbjihbaaGreatDoorS01
import Derived.Test.YtnjpfhihbjihbaaGreatDoorS26
import Derived.Test.YtnjpfhihbjihbaaGreatDoorS33
import Derived.OwnWalk
/- The closure of (*symbols.Table).Known: what it leaves. -/
namespace Go.Proofs.YtnjpfhihbjihbaaGreatDoor
open Go.RowKit Go.Sort

open Go.ChangeMaps
theorem Vis.congr {L : List Sy} {A S S' : ByteArray → Prop} {O : Env} (h : Vis L A S O) (hs : ∀ t, S t ↔ S' t) : Vis L A S' O :=
  ⟨h.sound, fun t n ht => (hs t).1 (h.seen t n ht), fun t ht => (hs t).1 (h.anc t ht), fun t n h1 h2 h3 => h.done t n ((hs t).2 h1) h2 h3⟩
theorem Vis.congrO {L : List Sy} {A S : ByteArray → Prop} {O O' : Env} (h : Vis L A S O) (ho : ∀ t, O t = O' t) : Vis L A S O' := by
  have : O = O' := funext ho
  rw [← this]; exact h
theorem cell_at {w : World} {b : Nat} {c : Array Value} {T : TypeId} {r : Nat × Nat} (h : w.heap[b]? = some (Obj.cells c T r)) (j : Nat) : w.cell? ⟨b, j, none⟩ = c[j]? := by simp only [World.cell?, h]; rfl
theorem put_env {l : List (ByteArray × Value)} {O : Env} (h : ∀ t, sget l t = (O t).map (Value.int .i64)) (s : ByteArray) (n : Int) : ∀ t, sget (sput l s (.int .i64 n)) t = ((fun u => if u = s then some n else O u) t).map (Value.int .i64) := fun t => by
  rw [sget_sput, bbeq]
  by_cases e : t = s
  · simp [e]
  · simp [e, h t]
theorem mem_lSyms (y : Ex) (b : ByteArray) : b ∈ y.syms ↔ b.data.toList ∈ uniq (lSyms [some y]) := by
  rw [mem_uniq]
  simp only [lSyms, oSyms, List.flatMap_cons, List.flatMap_nil, List.append_nil, List.mem_map]
  constructor
  · intro h; exact ⟨b, h, rfl⟩
  · rintro ⟨c, hc, e⟩
    have : c = b := ByteArray.ext (Array.ext' e)
    rw [← this]; exact hc
theorem argsAt_one {w : World} {y : Ex} {v : Value} {T : TypeId} (h : NodeAt 130 0 w y v) : ArgsAt 130 (w.alloc (.cells #[v] T)) [some y] (.slice (some ⟨w.heap.size, 0, none⟩) 1 1) := by
  refine ⟨w.heap.size, 0, 1, rfl, by show _ < (w.heap.push _).size; simp, fun j x hx => ?_⟩
  rcases j with _ | j
  · simp only [List.getElem?_cons_zero, Option.some.injEq] at hx
    subst hx
    refine ⟨v, by rw [cell_at (alloc_at' w _)]; rfl, NodeAt.below h ((Below.refl _ _).alloc (Nat.le_refl _) _)⟩
  · simp at hx
/-- What holds at the head of the closure's loop. -/
def VisLoop (ct cs co cv g b bs bo : Nat) (M : List (Sy × Value)) (A : ByteArray → Prop) (lS : List (ByteArray × Value)) (ns : List (List UInt8)) (w : World) (k : Nat) (wr : World) : Prop :=
  ∃ lS' lO' O', VisW wr ct cs co cv g b bs bo M lS' lO' O' ∧ Vis (M.map Prod.fst) A (seenS lS') O' ∧ (∀ t, seenS lS t → seenS lS' t) ∧ (∀ t ∈ ns.take k, (∃ s, sfindS (M.map Prod.fst) ⟨t.toArray⟩ = some s) → seenS lS' ⟨t.toArray⟩) ∧ K2 bs bo w wr
set_option maxHeartbeats 4000000 in
set_option maxRecDepth 100000 in
theorem visit_any (ct cs co cv g b bs bo : Nat) (M : List (Sy × Value)) (hok : ∀ x ∈ M, SyOk x.1) : ∀ (n : Nat) (name : ByteArray) (A : ByteArray → Prop) (w : World) (lS lO : List (ByteArray × Value)) (O : Env), unseen M lS ≤ n → VisW w ct cs co cv g b bs bo M lS lO O → Vis (M.map Prod.fst) A (seenS lS) O →
    ((∃ s, sfindS (M.map Prod.fst) name = some s) → ∀ a, A a → Leads (M.map Prod.fst) a name) →
    Calls Tryz.prog 46 (visArgs name ct cs co cv) w (VisPost ct cs co cv g b bs bo M A lS name w) := by
    intro n
    induction n using Nat.strongRecOn with
    | _ n ih =>
    intro name A w lS lO O hn hw hv hreach
    have HIH := Lib.hid ih; clear ih
    by_cases hseen : seenS lS name
    · exact visit_seen ct cs co cv g b bs bo M name A w lS lO O hw hv hseen
    rcases sget_symP M name with ⟨h1, h2⟩ | ⟨x, hx, h1, h2⟩
    · exact visit_no ct cs co cv g b bs bo M name A w lS lO O hw hv h1 h2
    have hst : sget lS name = none := by
      unfold seenS at hseen
      simpa using hseen
    obtain ⟨hsm, hnm⟩ := sfindS_some h2
    rcases n with _ | n
    · have hl := unseen_lt (M := M) (l := lS) (l' := sput lS name (.bool true)) (fun t ht => (seen_put lS name t _).2 (.inl ht)) hx (by rw [hnm]; exact hst) ((seen_put lS name _ _).2 (.inr hnm))
      omega
    have hlt : unseen M (sput lS name (.bool true)) ≤ n := by
      have hl := unseen_lt (M := M) (l := lS) (l' := sput lS name (.bool true)) (fun t ht => (seen_put lS name t _).2 (.inl ht)) hx (by rw [hnm]; exact hst) ((seen_put lS name _ _).2 (.inr hnm))
      omega
    have hA : ¬ A name := fun h => hseen (hv.anc name h)
    have hxok := hok x hx
    have hxn := hw.tab.node x hx
    obtain ⟨px, hpx⟩ := hxn.ptr
    rw [hpx] at hxn
    have c1 := hw.t
    have c2 := hw.tab.cell
    have c3 := hw.s
    have hg : g < w.heap.size := lt_of_block hw.tab.head
    have hct := cell_lt c1
    have hcs := cell_lt c3
    have hlk := run_sget (P := Tryz.prog) Tryz.underlying103 Tryz.underlying9 zeroSym hw.tab.map name true
    rw [h1, hpx] at hlk
    simp only [symV, Option.getD_some, Option.isSome_some, if_true] at hlk
    have hls := fun w' (hb : Below w.heap.size w w') => run_sget (P := Tryz.prog) Tryz.underlying98 Tryz.underlying9 zeroBool (hw.sm.below hb) name false
    rw [hst] at hls
    simp only [Option.getD_none, Bool.false_eq_true, if_false] at hls
    obtain ⟨⟨xname, xn, xex, xhere, xline⟩, xv⟩ := x
    dsimp only at hpx hnm hxn hlk hxok h2
    subst hnm
    have hls1 := hls (w.alloc (.cells #[.int .i64 xn, .pointer px, .int .i64 xhere, .int .i64 xline] 101)) (by (repeat (first | exact Below.refl _ _ | refine Below.drew ?_ | (refine below_gw' ?_ (by first | omega | (simp [go_sem]; done) | (simp [go_sem]; omega)) _) | (refine Below.alloc ?_ (by first | omega | (simp [go_sem]; done) | (simp [go_sem]; omega)) _) | (refine Below.setCell ?_ (by first | omega | (simp [go_sem]; done) | (simp [go_sem]; omega)) _))))
    have hvin := (hv.into xname).congr fun t => (seen_put lS xname t (.bool true)).symm
    have hbs := hw.sm.lt
    have HW := Lib.hid hw
    have HVIN := Lib.hid hvin
    have HN := Lib.hid hlt
    have HA := Lib.hid hA
    have HRE := Lib.hid (hreach ⟨_, h2⟩)
    have H2 := Lib.hid h2
    have HXN := Lib.hid hxn
    have HOK := Lib.hid hok
    clear hw hv hreach hn hlt hA hst hseen hls h1 hpx hx hsm hvin h2 hok hxn
    have HVW : Hid (∀ w1, SMap w1 bs (sput lS xname (.bool true)) → Kb bs (w.alloc (.cells #[.int .i64 xn, .pointer px, .int .i64 xhere, .int .i64 xline] 101)) w1 → VisW w1 ct cs co cv g b bs bo M (sput lS xname (.bool true)) lO O ∧ K2 bs bo w w1 ∧ w1.heap[w.heap.size]? = some (.cells #[.int .i64 xn, .pointer px, .int .i64 xhere, .int .i64 xline] 101 (0, 0))) := Lib.hid fun w1 hm hk => by
      have hk0 : K2 bs bo w w1 := (K2.of_below (by (repeat (first | exact Below.refl _ _ | refine Below.drew ?_ | (refine below_gw' ?_ (by first | omega | (simp [go_sem]; done) | (simp [go_sem]; omega)) _) | (refine Below.alloc ?_ (by first | omega | (simp [go_sem]; done) | (simp [go_sem]; omega)) _) | (refine Below.setCell ?_ (by first | omega | (simp [go_sem]; done) | (simp [go_sem]; omega)) _))))).trans (K2.of_kb1 hk)
      refine ⟨HW.out.k2 hk0 hm ?_ (some_put HW.out.sb xname) HW.out.ob, hk0, ?_⟩
      · exact (HW.out.om.alloc _).block (hk.block bo (HW.out.om.alloc _).lt HW.out.n3.symm)
      · rw [hk.block w.heap.size (by show _ < (w.heap.push _).size; simp) (by omega)]; exact alloc_at' w _
    cases xex with
    | none =>
      cases HXN.out
      have HVO : Hid (Vis (M.map Prod.fst) A (seenS (sput lS xname (.bool true))) (fun u => if u = xname then some xn else O u)) := Lib.hid ((HVIN.out.out H2.out HA.out (fun b hb => by cases hb) HRE.out).congrO fun u => by simp [Sy.ev])
      go_enter Tryz.func46, Tryz.ntmps46
      go_wp2_with (at_mapUpdate; refine wpList_sput rfl _ _ _ 98 rfl 9 4 Tryz.underlying98 Tryz.underlying9 bs lS xname (.bool true) rfl rfl rfl (HW.out.sm.below (by (repeat (first | exact Below.refl _ _ | refine Below.drew ?_ | (refine below_gw' ?_ (by first | omega | (simp [go_sem]; done) | (simp [go_sem]; omega)) _) | (refine Below.alloc ?_ (by first | omega | (simp [go_sem]; done) | (simp [go_sem]; omega)) _) | (refine Below.setCell ?_ (by first | omega | (simp [go_sem]; done) | (simp [go_sem]; omega)) _))))) ?_)
      intro w1 hm1 hk1 hz1
      obtain ⟨hvw1, hk01, hbox⟩ := HVW.out w1 hm1 hk1
      have d1 := hvw1.t
      have d2 := hvw1.tab.cell
      have d4 := hvw1.o
      have d5 := hvw1.v
      have b0 : w1.cell? ⟨w.heap.size, 0, none⟩ = some (.int .i64 xn) := (cell_at hbox 0).trans rfl
      have b1 : w1.cell? ⟨w.heap.size, 1, none⟩ = some (.pointer none) := (cell_at hbox 1).trans rfl
      have b2 : w1.cell? ⟨w.heap.size, 2, none⟩ = some (.int .i64 xhere) := (cell_at hbox 2).trans rfl
      have l0 := cell_lt b0
      have HVW1 := Lib.hid hvw1
      have HK01 := Lib.hid hk01
      clear hvw1 hk01 hbox hm1 hk1 hz1 c1 c2 c3 hlk hls1
      go_wp2_with (at_mapUpdate; refine wpList_sput rfl _ _ _ 49 rfl 9 3 Tryz.underlying49 Tryz.underlying9 bo lO xname (.int .i64 xn) rfl rfl rfl HVW1.out.om ?_)
      intro w2 hm2 hk2 hz2
      have hK : K2 bs bo w w2 := HK01.out.trans (K2.of_kb2 hk2)
      have hW2 := HVW1.out.k2 (.of_kb2 hk2) (HVW1.out.sm.block (hk2.block bs HVW1.out.sm.lt HVW1.out.n3)) hm2 HVW1.out.sb (put_env HVW1.out.ob xname xn)
      have HK2 := Lib.hid hK; have HW2 := Lib.hid hW2
      clear hK hW2 hm2 hk2 hz2
      go_wp2_with fail
      go_end0
      exact ⟨rfl, _, _, _, HW2.out, HVO.out, fun t ht => (seen_put lS xname t _).2 (.inl ht), fun _ => (seen_put lS xname xname _).2 (.inr rfl), HK2.out⟩
    | some y =>
      obtain ⟨q, rfl⟩ : ∃ q, px = some q := by obtain ⟨g, h, _⟩ := NodeAt.ptr HXN.out; cases h; exact ⟨_, rfl⟩
      have hns : ∀ v w, ArgsAt 130 w [some y] v → Calls Tryz.prog 47 #[v] w (NamesRes [some y] w) := fun v w h => names_any y.nodes [some y] (by simp [lNodes, oNodes]) (hxok.2.2 y rfl).2 (by simp) v w h
      unfold NamesRes at hns
      have hnl : (uniq (lSyms [some y])).length ≤ 1000000 := by
        have h1 := uniq_len (lSyms [some y])
        have h2 := lSyms_len [some y]
        have h3 := (hxok.2.2 y rfl).2
        simp only [lNodes, oNodes] at h2
        omega
      have HMEM : Hid (∀ b, b ∈ y.syms ↔ b.data.toList ∈ uniq (lSyms [some y])) := Lib.hid (mem_lSyms y)
      generalize uniq (lSyms [some y]) = ns at hns hnl HMEM
      have HNS := Lib.hid hns; clear hns
      go_enter Tryz.func46, Tryz.ntmps46
      go_wp2_with (at_mapUpdate; refine wpList_sput rfl _ _ _ 98 rfl 9 4 Tryz.underlying98 Tryz.underlying9 bs lS xname (.bool true) rfl rfl rfl (HW.out.sm.below (by (repeat (first | exact Below.refl _ _ | refine Below.drew ?_ | (refine below_gw' ?_ (by first | omega | (simp [go_sem]; done) | (simp [go_sem]; omega)) _) | (refine Below.alloc ?_ (by first | omega | (simp [go_sem]; done) | (simp [go_sem]; omega)) _) | (refine Below.setCell ?_ (by first | omega | (simp [go_sem]; done) | (simp [go_sem]; omega)) _))))) ?_)
      intro w1 hm1 hk1 hz1
      obtain ⟨hvw1, hk01, hbox⟩ := HVW.out w1 hm1 hk1
      have d1 := hvw1.t
      have d2 := hvw1.tab.cell
      have d4 := hvw1.o
      have d5 := hvw1.v
      have b0 : w1.cell? ⟨w.heap.size, 0, none⟩ = some (.int .i64 xn) := (cell_at hbox 0).trans rfl
      have b1 : w1.cell? ⟨w.heap.size, 1, none⟩ = some (.pointer (some q)) := (cell_at hbox 1).trans rfl
      have b2 : w1.cell? ⟨w.heap.size, 2, none⟩ = some (.int .i64 xhere) := (cell_at hbox 2).trans rfl
      have l0 := cell_lt b0
      have HVW1 := Lib.hid hvw1
      have HK01 := Lib.hid hk01
      have HBOX := Lib.hid hbox
      have HXN1 : Hid (NodeAt 130 0 w1 y (.pointer (some q))) := Lib.hid (NodeAt.ck ((Ck.of_below (Below.alloc (Below.refl _ _) (Nat.le_refl _) (.cells #[.int .i64 xn, .pointer (some q), .int .i64 xhere, .int .i64 xline] 101))).trans (.of_kb hk1 (HW.out.sm.alloc _))) y _ HXN.out)
      clear hvw1 hk01 hbox hm1 hk1 hz1 c1 c2 c3 hlk hls1
      go_wp2_with fail
      (with_reducible refine (HNS.out _ _ (argsAt_one HXN1.out)).mono ?_)
      rintro e w2 ⟨vn, rfl, hrow, _, hb2⟩
      have hbw : Below w1.heap.size w1 w2 := Below.trans (b := w1.alloc (.cells #[.pointer (some q)] 38)) (by (repeat (first | exact Below.refl _ _ | refine Below.drew ?_ | (refine below_gw' ?_ (by first | omega | (simp [go_sem]; done) | (simp [go_sem]; omega)) _) | (refine Below.alloc ?_ (by first | omega | (simp [go_sem]; done) | (simp [go_sem]; omega)) _) | (refine Below.setCell ?_ (by first | omega | (simp [go_sem]; done) | (simp [go_sem]; omega)) _)))) (hb2.mono (by show _ ≤ (w1.heap.push _).size; simp))
      obtain ⟨a, cap, rfl, hcap, hc⟩ := hrow.strs
      have HC := Lib.hid hc
      have HVW2 := Lib.hid (HVW1.out.below hbw)
      have HK02 := Lib.hid (HK01.out.trans (K2.of_below hbw))
      have HXN2 : Hid (NodeAt 130 0 w2 y (.pointer (some q))) := Lib.hid (NodeAt.below HXN1.out hbw)
      have HBOX2 : Hid (w2.heap[w.heap.size]? = some (.cells #[.int .i64 xn, .pointer (some q), .int .i64 xhere, .int .i64 xline] 101 (0, 0))) := Lib.hid (by rw [hbw.block _ l0]; exact HBOX.out)
      have hn1 : (ns.length : Int) ≤ 1000000 := by omega
      have hc1 : (ns.length : Int) ≤ (cap : Int) := by omega
      have HSEE : Hid (∀ t, seenS lS t → seenS (sput lS xname (.bool true)) t) := Lib.hid fun t ht => (seen_put lS xname t _).2 (.inl ht)
      have HSEN : Hid (seenS (sput lS xname (.bool true)) xname) := Lib.hid ((seen_put lS xname xname _).2 (.inr rfl))
      clear hb2 hrow hc hbw d1 d2 d4 d5 b0 b1 b2 HVW1 HK01 HXN1 HBOX hcap
      generalize sput lS xname (.bool true) = lS1 at *
      go_wp2_with fail
      go_loopw [42] (fun i wr => ∃ k : Nat, k ≤ ns.length ∧ i = .int .i64 k ∧ VisLoop ct cs co cv g b bs bo M (fun u => A u ∨ u = xname) lS1 ns w2 k wr) (fun i _ => ns.length - (intOf i).toNat)
      case atStart => exact ⟨0, Nat.zero_le _, rfl, lS1, lO, O, HVW2.out, HVIN.out, fun _ h => h, fun t ht => by simp at ht, K2.refl _ _ _⟩
      case round =>
        obtain ⟨k, hk, rfl, lS', lO', O', hvw, hvs, hmono, hdone, hk2⟩ := hrel
        have hck := hk2.ck HVW2.out.sm HVW2.out.om
        have hbox := hck.block _ _ _ _ HBOX2.out
        have hxn := NodeAt.ck hck y _ HXN2.out
        have d1 := hvw.t
        have d2 := hvw.tab.cell
        have d4 := hvw.o
        have d5 := hvw.v
        have l0 := cell_lt d4
        have l1 := cell_lt d5
        have l2 := lt_of_block hbox
        have HVW := Lib.hid hvw
        have HVS := Lib.hid hvs
        have HMO := Lib.hid hmono
        have HDO := Lib.hid hdone
        have HK := Lib.hid hk2
        have HXN3 := Lib.hid hxn
        by_cases hlt : k < ns.length
        · obtain ⟨t, ht⟩ : ∃ t, ns[k]? = some t := ⟨_, List.getElem?_eq_getElem hlt⟩
          obtain ⟨gr, o, rfl, hgr, hcs⟩ := HC.out (by rintro rfl; simp at ht)
          have f0 := hck.cell (hcs k t ht)
          have hcall := HIH.out n (Nat.lt_succ_self n) ⟨t.toArray⟩ (fun u => A u ∨ u = xname) wr lS' lO' O' (Nat.le_trans (unseen_le HMO.out) HN.out) HVW.out HVS.out (fun hdef a ha => by
            have hd : Dep (M.map Prod.fst) xname ⟨t.toArray⟩ := ⟨_, H2.out, (HMEM.out _).2 (List.mem_of_getElem? ht), hdef⟩
            rcases ha with ha | rfl
            · exact (HRE.out a ha).trans (.one hd)
            · exact .one hd)
          have HCALL := Lib.hid hcall
          have HT : Hid (ns.take (k + 1) = ns.take k ++ [t]) := Lib.hid (by rw [List.take_add_one, ht]; rfl)
          have hi0 : (0 : Int) ≤ (k : Int) := by omega
          have hi1 : (k : Int) < (ns.length : Int) := by omega
          have l3 := cell_lt f0
          clear hvw hvs hmono hdone hk2 hck hbox hxn hcs hcall ht
          go_wp2_with fail
          (with_reducible refine HCALL.out.mono ?_)
          rintro e w3 ⟨rfl, lS3, lO3, O3, hvw3, hvs3, hmono3, hname3, hk3⟩
          have HR : Hid (VisLoop ct cs co cv g b bs bo M (fun u => A u ∨ u = xname) lS1 ns w2 (k + 1) w3) := Lib.hid ⟨lS3, lO3, O3, hvw3, hvs3, fun u hu => hmono3 u (HMO.out u hu), fun u hu hd => by
            rw [HT.out] at hu
            rcases List.mem_append.1 hu with hu | hu
            · exact hmono3 _ (HDO.out u hu hd)
            · rw [List.mem_singleton] at hu; subst hu; exact hname3 hd, HK.out.trans hk3⟩
          clear hvw3 hvs3 hmono3 hname3 hk3
          go_wp2_with fail
          go_roundw
          case rel => exact ⟨k + 1, by omega, by go_num, HR.out⟩
          case measure => simp [intOf]; omega
        · obtain rfl : k = ns.length := by omega
          have b1 : wr.cell? ⟨w.heap.size, 1, none⟩ = some (.pointer (some q)) := (cell_at hbox 1).trans rfl
          have b2 : wr.cell? ⟨w.heap.size, 2, none⟩ = some (.int .i64 xhere) := (cell_at hbox 2).trans rfl
          have hev := eval_any O' xhere (fun s n h => Kn_in (L := M.map Prod.fst) (fun s hs => by obtain ⟨x, hx, rfl⟩ := List.mem_map.1 hs; exact HOK.out x hx) s n (hvs.sound s n h)) hxok.2.1 (.map (some bo)) y (hxok.2.2 y rfl).1 (.pointer (some q)) wr hxn (.inr ⟨bo, lO', rfl, hvw.om, hvw.ob⟩)
          unfold EvRes at hev
          have hvo : Vis (M.map Prod.fst) A (seenS lS') (fun u => if u = xname then (if (y.eval O' xhere).2 = 0 then some (y.eval O' xhere).1 else O' xname) else O' u) := hvs.out H2.out HA.out (fun b hb hd => by
            have h := hdone b.data.toList (by rw [List.take_length]; exact (HMEM.out b).1 hb) hd
            exact h) HRE.out
          generalize y.eval O' xhere = val at hev hvo
          obtain ⟨v, c⟩ := val
          have HVO := Lib.hid hvo
          have HEV := Lib.hid hev
          clear hvw hvs hmono hdone hk2 hck hbox hxn hev hvo
          by_cases hc0 : c = 0
          · subst hc0
            have HVO2 := Lib.hid (HVO.out.congrO (O' := fun u => if u = xname then some v else O' u) fun u => by simp)
            clear HVO
            go_wp2_with fail
            (with_reducible refine HEV.out.mono ?_)
            rintro e w3 ⟨rfl, hb3⟩
            have HB3 := Lib.hid hb3
            have hvw3 := HVW.out.below hb3
            have d4' := hvw3.o
            have l4 := cell_lt d4'
            clear hb3 d1 d2 d4 d5 b1 b2 l0 l1 l2
            have HVW3 := Lib.hid hvw3; clear hvw3
            go_wp2_with (at_mapUpdate; refine wpList_sput rfl _ _ _ 49 rfl 9 3 Tryz.underlying49 Tryz.underlying9 bo lO' xname (.int .i64 v) rfl rfl rfl HVW3.out.om ?_)
            intro w4 hm4 hk4 hz4
            have hK : K2 bs bo w w4 := ((HK02.out.trans HK.out).trans (K2.of_below HB3.out)).trans (K2.of_kb2 hk4)
            have hW4 := HVW3.out.k2 (.of_kb2 hk4) (HVW3.out.sm.block (hk4.block bs HVW3.out.sm.lt HVW3.out.n3)) hm4 HVW3.out.sb (put_env HVW3.out.ob xname v)
            have HK2 := Lib.hid hK; have HW4 := Lib.hid hW4
            clear hK hW4 hm4 hk4 hz4 d4' l4
            go_wp2_with fail
            go_end0
            exact ⟨rfl, _, _, _, HW4.out, HVO2.out, fun t ht => HMO.out t (HSEE.out t ht), fun _ => HMO.out xname HSEN.out, HK2.out⟩
          · have hcb : (c == 0) = false := by simpa using hc0
            have HVO2 := Lib.hid (HVO.out.congrO (O' := O') fun u => by by_cases e : u = xname <;> simp [e, hc0])
            clear HVO hc0
            go_wp2_with fail
            (with_reducible refine HEV.out.mono ?_)
            rintro e w3 ⟨rfl, hb3⟩
            have HB3 := Lib.hid hb3
            have HVW3 := Lib.hid (HVW.out.below hb3)
            clear hb3
            go_wp2_with fail
            go_end0
            exact ⟨rfl, _, _, _, HVW3.out, HVO2.out, fun t ht => HMO.out t (HSEE.out t ht), fun _ => HMO.out xname HSEN.out, (HK02.out.trans HK.out).trans (K2.of_below HB3.out)⟩
end Go.Proofs.YtnjpfhihbjihbaaGreatDoor

/- Maps with string keys: laws for a walk over a loop that ranges. -/
namespace Go.Proofs.YtnjpfhihbjihbaaGreatDoor
open Go.RowKit Go.Sort

theorem wpList_srange {P : Program} {w : World} {ops : Array Oper} {rest : List Oper} {o : Oper} {a : Act} {Q : Exit → Act → World → Prop}
    (hg : o.guard = none) (m : Operand) (T : TypeId) (hop : o.op = Op.range T m) (K E : TypeId) (ht : P.underlying T = some (.map K E)) (b : Nat) (l : List (ByteArray × Value))
    (hm : a.eval m = .map (some b)) (h : SMap w b l)
    (hK : ∀ w', SRng w' b w.heap.size l l → Below w.heap.size w w' → w'.heap.size = w.heap.size + 1 → wpList P ops Q rest (a.put o.dst (.pointer (some ⟨w.heap.size, 0, none⟩))) w') :
    wpList P ops Q (o :: rest) a w := by
  refine wpList_plain hg fun K' hK' => ?_
  obtain ⟨ob, hrun, hr⟩ := run_srange ht h
  unfold Oper.wp
  simp only [execOp, hop, hm, hrun, Result.andThen, Sem.run_bind, Sem.run_pure]
  exact hK' _ _ (hK _ hr ((Below.refl _ _).alloc (Nat.le_refl _) _) (by show (w.heap.push _).size = _; simp))
theorem wpList_snext {P : Program} {w : World} {ops : Array Oper} {rest : List Oper} {o : Oper} {a : Act} {Q : Exit → Act → World → Prop}
    (hg : o.guard = none) (it : Operand) (hop : o.op = Op.next it false) (b r : Nat) (l left : List (ByteArray × Value)) (hit : a.eval it = .pointer (some ⟨r, 0, none⟩)) (h : SRng w b r l left)
    (hDone : left = [] → wpList P ops Q rest (a.put o.dst (.tuple #[.bool false])) w)
    (hMore : ∀ l1 x l2 w1, left = l1 ++ x :: l2 → SRng w1 b r l (l1 ++ l2) → Kb r w w1 → w1.heap.size = w.heap.size → (Instr.entry (.pointer (some ⟨r, 0, none⟩))).run P w1 = .ok (.tuple #[.string x.1, x.2]) w1 → wpList P ops Q rest (a.put o.dst (.tuple #[.bool true, .string x.1, x.2])) w1) :
    wpList P ops Q (o :: rest) a w := by
  refine wpList_plain hg fun K' hK' => ?_
  unfold Oper.wp
  rcases run_snext (P := P) h o.type with ⟨h0, hrun⟩ | ⟨l1, x, l2, w1, h1, hrun, h2, h3, h4, h5⟩
  · simp only [execOp, hop, hit, hrun, Result.andThen, Sem.run_bind, Sem.run_pure]
    exact hK' _ _ (hDone h0)
  · simp only [execOp, hop, hit, hrun, Result.andThen, Sem.run_bind, Sem.run_pure]
    exact hK' _ _ (hMore l1 x l2 w1 h1 h2 h3 h4 h5)
/-- How many pairs a loop has still to meet. -/
def sleft (w : World) (r : Nat) : Nat :=
  match w.heap[r]? with
  | some (.mapIter (some b) _ seen _) => (match w.heap[b]? with | some (.map es _) => (leftOf es seen).size | _ => 0)
  | _ => 0
theorem SRng.left {w : World} {b r : Nat} {l left : List (ByteArray × Value)} (h : SRng w b r l left) : sleft w r = left.length := by
  obtain ⟨es, c, since, seen, c0, h1, h2, h3, h4, h5, h6, h7, h8⟩ := h
  unfold sleft
  rw [h4]
  simp only [h1]
  have := congrArg List.length h8
  simpa using this
end Go.Proofs.YtnjpfhihbjihbaaGreatDoor
