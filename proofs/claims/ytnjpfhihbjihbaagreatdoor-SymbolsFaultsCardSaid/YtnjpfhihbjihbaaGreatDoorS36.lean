/- Joined texts: Known, Build20. -/
import Derived.Test.YtnjpfhihbjihbaaGreatDoorS29
import Derived.Test.YtnjpfhihbjihbaaGreatDoorS30
import Derived.Test.YtnjpfhihbjihbaaGreatDoorS34
import Derived.Test.YtnjpfhihbjihbaaGreatDoorS35
/- (*symbols.Table).Known. -/
namespace Go.Proofs.YtnjpfhihbjihbaaGreatDoor
open Go.RowKit Go.Sort

open Go.ChangeMaps
/-- What Known leaves: a map of the values. -/
def KnMap (w : World) (L : List Sy) (m : Value) : Prop := ∃ bo lO, m = .map (some bo) ∧ SMap w bo lO ∧ ∀ t, sget lO t = (Kn L t).map (Value.int .i64)
theorem KnMap.below {w w' : World} {L : List Sy} {m : Value} (h : KnMap w L m) (hb : Below w.heap.size w w') : KnMap w' L m := by
  obtain ⟨bo, lO, h1, h2, h3⟩ := h
  exact ⟨bo, lO, h1, h2.below hb, h3⟩
theorem KnMap.at {w : World} {L : List Sy} {m : Value} (h : KnMap w L m) : MapAt w m (Kn L) := by
  obtain ⟨bo, lO, h1, h2, h3⟩ := h
  exact .inr ⟨bo, lO, h1, h2, h3⟩
set_option maxHeartbeats 1000000 in
theorem known_nil (w : World) : Calls Tryz.prog 19 #[.pointer none] w fun e w' => e = .returned (.map none) ∧ Below w.heap.size w w' := by
  go_enter Tryz.func19, Tryz.ntmps19
  go_wp2_with fail
  go_ret
  exact ⟨rfl, by (repeat (first | exact Below.refl _ _ | refine Below.drew ?_ | (refine below_gw' ?_ (by first | omega | (simp [go_sem]; done) | (simp [go_sem]; omega)) _) | (refine Below.alloc ?_ (by first | omega | (simp [go_sem]; done) | (simp [go_sem]; omega)) _) | (refine Below.setCell ?_ (by first | omega | (simp [go_sem]; done) | (simp [go_sem]; omega)) _)))⟩
/-- What holds at the head of the loop of Known. -/
def KnLoop (ct cs co cv g b bs bo r : Nat) (M : List (Sy × Value)) (w : World) (left : List (ByteArray × Value)) (wr : World) : Prop :=
  ∃ lS lO O, VisW wr ct cs co cv g b bs bo M lS lO O ∧ Vis (M.map Prod.fst) (fun _ => False) (seenS lS) O ∧ (∀ x ∈ M, seenS lS x.1.name ∨ symP x ∈ left) ∧ SRng wr b r (M.map symP) left ∧ r ≠ bs ∧ r ≠ bo ∧ Below w.heap.size w wr
theorem kn_init (g b : Nat) (M : List (Sy × Value)) (w : World) (hT : TabIn w g b M) : VisW ((((((w.alloc (.cells #[.pointer (some ⟨g, 0, none⟩)] 25)).alloc (.map #[] 0)).alloc (.cells #[.map (some (w.heap.size + 1))] 49)).alloc (.map #[] 0)).alloc (.cells #[.map (some (w.heap.size + 1 + 1 + 1))] 98)).alloc (.cells #[.func (.func 46) #[] #[.pointer (some ⟨w.heap.size, 0, none⟩), .pointer (some ⟨w.heap.size + 1 + 1 + 1 + 1, 0, none⟩), .pointer (some ⟨w.heap.size + 1 + 1, 0, none⟩), .pointer (some ⟨w.heap.size + 1 + 1 + 1 + 1 + 1, 0, none⟩)]] 99)) w.heap.size (w.heap.size + 1 + 1 + 1 + 1) (w.heap.size + 1 + 1) (w.heap.size + 1 + 1 + 1 + 1 + 1) g b (w.heap.size + 1 + 1 + 1) (w.heap.size + 1) M [] [] (fun _ => none) := by
  have hb := hT.map.lt
  refine ⟨by simp [go_sem], by simp [go_sem], by simp [go_sem], by simp [go_sem], hT.below (by (repeat (first | exact Below.refl _ _ | refine Below.drew ?_ | (refine below_gw' ?_ (by first | omega | (simp [go_sem]; done) | (simp [go_sem]; omega)) _) | (refine Below.alloc ?_ (by first | omega | (simp [go_sem]; done) | (simp [go_sem]; omega)) _) | (refine Below.setCell ?_ (by first | omega | (simp [go_sem]; done) | (simp [go_sem]; omega)) _)))), .new ?_, .new ?_, fun t v h => by (cases h), fun t => rfl, by omega, by omega, by omega⟩
  · show (Array.push (Array.push (Array.push (Array.push (Array.push (Array.push w.heap _) _) _) _) _) _)[_]? = _
    simp only [Array.getElem?_push, Array.size_push]
    repeat (first | rw [if_neg (by omega)] | rw [if_pos (by omega)] | rw [if_pos trivial])
  · show (Array.push (Array.push (Array.push (Array.push (Array.push (Array.push w.heap _) _) _) _) _) _)[_]? = _
    simp only [Array.getElem?_push, Array.size_push]
    repeat (first | rw [if_neg (by omega)] | rw [if_pos (by omega)] | rw [if_pos trivial])
theorem kn_init2 (g b : Nat) (M : List (Sy × Value)) (w w1 : World) (hT : TabIn w g b M) (hb : Below (w.heap.size + 1 + 1 + 1 + 1 + 1 + 1) ((((((w.alloc (.cells #[.pointer (some ⟨g, 0, none⟩)] 25)).alloc (.map #[] 0)).alloc (.cells #[.map (some (w.heap.size + 1))] 49)).alloc (.map #[] 0)).alloc (.cells #[.map (some (w.heap.size + 1 + 1 + 1))] 98)).alloc (.cells #[.func (.func 46) #[] #[.pointer (some ⟨w.heap.size, 0, none⟩), .pointer (some ⟨w.heap.size + 1 + 1 + 1 + 1, 0, none⟩), .pointer (some ⟨w.heap.size + 1 + 1, 0, none⟩), .pointer (some ⟨w.heap.size + 1 + 1 + 1 + 1 + 1, 0, none⟩)]] 99)) w1) : VisW w1 w.heap.size (w.heap.size + 1 + 1 + 1 + 1) (w.heap.size + 1 + 1) (w.heap.size + 1 + 1 + 1 + 1 + 1) g b (w.heap.size + 1 + 1 + 1) (w.heap.size + 1) M [] [] (fun _ => none) ∧ Below w.heap.size w w1 := by
  have e : (((((((w.alloc (.cells #[.pointer (some ⟨g, 0, none⟩)] 25)).alloc (.map #[] 0)).alloc (.cells #[.map (some (w.heap.size + 1))] 49)).alloc (.map #[] 0)).alloc (.cells #[.map (some (w.heap.size + 1 + 1 + 1))] 98)).alloc (.cells #[.func (.func 46) #[] #[.pointer (some ⟨w.heap.size, 0, none⟩), .pointer (some ⟨w.heap.size + 1 + 1 + 1 + 1, 0, none⟩), .pointer (some ⟨w.heap.size + 1 + 1, 0, none⟩), .pointer (some ⟨w.heap.size + 1 + 1 + 1 + 1 + 1, 0, none⟩)]] 99))).heap.size = w.heap.size + 1 + 1 + 1 + 1 + 1 + 1 := by simp [go_sem]
  refine ⟨(kn_init g b M w hT).below (by rw [e]; exact hb), Below.trans (b := ((((((w.alloc (.cells #[.pointer (some ⟨g, 0, none⟩)] 25)).alloc (.map #[] 0)).alloc (.cells #[.map (some (w.heap.size + 1))] 49)).alloc (.map #[] 0)).alloc (.cells #[.map (some (w.heap.size + 1 + 1 + 1))] 98)).alloc (.cells #[.func (.func 46) #[] #[.pointer (some ⟨w.heap.size, 0, none⟩), .pointer (some ⟨w.heap.size + 1 + 1 + 1 + 1, 0, none⟩), .pointer (some ⟨w.heap.size + 1 + 1, 0, none⟩), .pointer (some ⟨w.heap.size + 1 + 1 + 1 + 1 + 1, 0, none⟩)]] 99))) (by (repeat (first | exact Below.refl _ _ | refine Below.drew ?_ | (refine below_gw' ?_ (by first | omega | (simp [go_sem]; done) | (simp [go_sem]; omega)) _) | (refine Below.alloc ?_ (by first | omega | (simp [go_sem]; done) | (simp [go_sem]; omega)) _) | (refine Below.setCell ?_ (by first | omega | (simp [go_sem]; done) | (simp [go_sem]; omega)) _)))) (hb.mono (by omega))⟩
theorem VisW.kr {w w' : World} {ct cs co cv g b bs bo r : Nat} {M : List (Sy × Value)} {lS lO l left : List (ByteArray × Value)} {O : Env} (h : VisW w ct cs co cv g b bs bo M lS lO O) (hr : SRng w b r l left) (hk : Kb r w w') (h1 : r ≠ bs) (h2 : r ≠ bo) : VisW w' ct cs co cv g b bs bo M lS lO O :=
  have hc := Ck.of_kbr hk hr
  ⟨hc.cell h.t, hc.cell h.s, hc.cell h.o, hc.cell h.v, h.tab.ck hc (hk.block b h.tab.map.lt hr.ne), h.sm.block (hk.block bs h.sm.lt h1.symm), h.om.block (hk.block bo h.om.lt h2.symm), h.sb, h.ob, h.n1, h.n2, h.n3⟩
set_option maxHeartbeats 4000000 in
set_option maxRecDepth 100000 in
theorem known_any (g b : Nat) (M : List (Sy × Value)) (hok : ∀ x ∈ M, SyOk x.1) (w : World) (hT : TabIn w g b M) :
    Calls Tryz.prog 19 #[.pointer (some ⟨g, 0, none⟩)] w fun e w' => ∃ m, e = .returned m ∧ KnMap w' (M.map Prod.fst) m ∧ Below w.heap.size w w' := by
  have c1 := hT.cell
  have hg : g < w.heap.size := lt_of_block hT.head
  have hmk : ∀ w : World, (Instr.makeMap 49 none).run Tryz.prog w = .ok (.map (some w.heap.size)) (w.alloc (.map #[] 0)) := fun w => by simp [Instr.makeMap]
  have hmk2 : ∀ w : World, (Instr.makeMap 98 none).run Tryz.prog w = .ok (.map (some w.heap.size)) (w.alloc (.map #[] 0)) := fun w => by simp [Instr.makeMap]
  have HT := Lib.hid hT; clear hT
  have HOK := Lib.hid hok; clear hok
  have cX : (((((((w.alloc (.cells #[.pointer (some ⟨g, 0, none⟩)] 25)).alloc (.map #[] 0)).alloc (.cells #[.map (some (w.heap.size + 1))] 49)).alloc (.map #[] 0)).alloc (.cells #[.map (some (w.heap.size + 1 + 1 + 1))] 98)).alloc (.cells #[.func (.func 46) #[] #[.pointer (some ⟨w.heap.size, 0, none⟩), .pointer (some ⟨w.heap.size + 1 + 1 + 1 + 1, 0, none⟩), .pointer (some ⟨w.heap.size + 1 + 1, 0, none⟩), .pointer (some ⟨w.heap.size + 1 + 1 + 1 + 1 + 1, 0, none⟩)]] 99))).cell? ⟨g, 0, none⟩ = some (.map (some b)) := (Below.cell (w := w) (p := ⟨g, 0, none⟩) (show Below w.heap.size w _ by (repeat (first | exact Below.refl _ _ | refine Below.drew ?_ | (refine below_gw' ?_ (by first | omega | (simp [go_sem]; done) | (simp [go_sem]; omega)) _) | (refine Below.alloc ?_ (by first | omega | (simp [go_sem]; done) | (simp [go_sem]; omega)) _) | (refine Below.setCell ?_ (by first | omega | (simp [go_sem]; done) | (simp [go_sem]; omega)) _)))) hg).trans c1
  go_enter Tryz.func19, Tryz.ntmps19
  go_wp2_with (at_range; refine wpList_srange rfl _ 103 rfl 9 101 Tryz.underlying103 b (M.map symP) rfl (HT.out.map.below (by (repeat (first | exact Below.refl _ _ | refine Below.drew ?_ | (refine below_gw' ?_ (by first | omega | (simp [go_sem]; done) | (simp [go_sem]; omega)) _) | (refine Below.alloc ?_ (by first | omega | (simp [go_sem]; done) | (simp [go_sem]; omega)) _) | (refine Below.setCell ?_ (by first | omega | (simp [go_sem]; done) | (simp [go_sem]; omega)) _))))) ?_)
  intro w1 hr1 hb1 hz1
  obtain ⟨hvw, hbw⟩ := kn_init2 g b M w w1 HT.out hb1
  have HVW := Lib.hid hvw
  have hrr : ∃ r, w.heap.size + 1 + 1 + 1 + 1 + 1 + 1 = r := ⟨_, rfl⟩
  obtain ⟨r, hre⟩ := hrr
  rw [hre] at hr1 ⊢
  have HRG := Lib.hid hr1
  have HBW := Lib.hid hbw
  have HR1 : Hid (r ≠ w.heap.size + 1 + 1 + 1 ∧ r ≠ w.heap.size + 1 ∧ w.heap.size ≤ r) := Lib.hid ⟨by omega, by omega, by omega⟩
  clear hb1 hz1 hr1 hvw hbw hre cX hmk hmk2 c1
  go_wp2_with fail

  go_loopw [6] (fun _ wr => ∃ left, KnLoop w.heap.size (w.heap.size + 1 + 1 + 1 + 1) (w.heap.size + 1 + 1) (w.heap.size + 1 + 1 + 1 + 1 + 1) g b (w.heap.size + 1 + 1 + 1) (w.heap.size + 1) r M w left wr) (fun _ wr => sleft wr r)
  case atStart => exact ⟨_, [], [], _, HVW.out, (Vis.start _).congr (fun t => ⟨fun h => h.elim, fun h => by simp [seenS, sget] at h⟩), fun x hx => .inr (List.mem_map_of_mem hx), HRG.out, HR1.out.1, HR1.out.2.1, HBW.out⟩
  case round =>
    obtain ⟨left, lS, lO, O, hvw, hvs, hall, hrg, hn1, hn2, hbel⟩ := hrel
    have HV := Lib.hid hvw
    have HS := Lib.hid hvs
    have HALL := Lib.hid hall
    have HRG2 := Lib.hid hrg
    have HBEL := Lib.hid hbel
    have d4 := hvw.o
    have l4 := cell_lt d4
    clear hvw hvs hall hrg hbel hn1 hn2 HVW HRG HBW
    go_wp2_with (at_next; refine wpList_snext rfl _ rfl b r (M.map symP) left rfl HRG2.out ?_ ?_)
    · intro hl0
      subst hl0
      go_wp2_with fail
      go_ret
      refine ⟨_, rfl, ⟨_, lO, rfl, HV.out.om, fun t => ?_⟩, HBEL.out⟩
      rw [HV.out.ob t]
      congr 1
      apply Option.ext
      intro n
      constructor
      · exact HS.out.sound t n
      · intro hk
        obtain ⟨s, hs, _⟩ := Kn_inv hk
        obtain ⟨h1, rfl⟩ := sfindS_some hs
        obtain ⟨x, hx, rfl⟩ := List.mem_map.1 h1
        rcases HALL.out x hx with h | h
        · exact HS.out.done _ n h (fun h => h) hk
        · cases h
    · intro l1 xs xv l2 w2 hl hr2 hk2 hz2 hen
      subst hl
      have hv2 := HV.out.kr HRG2.out hk2 HR1.out.1 HR1.out.2.1
      have d5 := hv2.v
      have l5 := cell_lt d5
      have l6 := hr2.lt
      have hcall := visit_any _ _ _ _ _ _ _ _ M HOK.out _ xs (fun _ => False) w2 lS lO O (Nat.le_refl _) hv2 HS.out (fun _ a ha => ha.elim)
      have HV2 := Lib.hid hv2
      have HR2 := Lib.hid hr2
      have HCALL := Lib.hid hcall
      have HB2 : Hid (Below w.heap.size w w2) := Lib.hid (HBEL.out.trans (hk2.low HR1.out.2.2 (by have := HBEL.out.size; exact this)))
      clear hv2 hr2 hcall hk2 hz2 d4 l4
      go_wp2_with fail
      (with_reducible refine HCALL.out.mono ?_)
      rintro e w3 ⟨rfl, lS3, lO3, O3, hvw3, hvs3, hmono3, hname3, hk3⟩
      have HLOOP : Hid (KnLoop w.heap.size (w.heap.size + 1 + 1 + 1 + 1) (w.heap.size + 1 + 1) (w.heap.size + 1 + 1 + 1 + 1 + 1) g b (w.heap.size + 1 + 1 + 1) (w.heap.size + 1) r M w (l1 ++ l2) w3) := Lib.hid (by
        refine ⟨lS3, lO3, O3, hvw3, hvs3, fun y hy => ?_, HR2.out.block (hk3.block b HV2.out.tab.map.lt HV2.out.n1 HV2.out.n2) (hk3.block r HR2.out.lt HR1.out.1 HR1.out.2.1), HR1.out.1, HR1.out.2.1, HB2.out.trans (hk3.below (by omega) (by omega) HB2.out.size)⟩
        rcases HALL.out y hy with h | h
        · exact .inl (hmono3 _ h)
        · rw [List.mem_append, List.mem_cons] at h
          rcases h with h | h | h
          · exact .inr (List.mem_append.2 (.inl h))
          · left
            have e : y.1.name = xs := congrArg Prod.fst h
            rw [e]
            exact hname3 (by rw [← e]; exact ⟨_, sfindS_mem HT.out.nodup (List.mem_map_of_mem hy)⟩)
          · exact .inr (List.mem_append.2 (.inr h)))
      have hms : sleft w3 r < sleft wr r := by
        have h1 := HLOOP.out
        obtain ⟨_, _, _, _, _, _, h2, _⟩ := h1
        rw [h2.left, HRG2.out.left]
        simp
      have HMS := Lib.hid hms
      clear hvw3 hvs3 hmono3 hname3 hk3 hms
      go_wp2_with fail
      go_roundw
      case rel => exact ⟨_, HLOOP.out⟩
      case measure => exact HMS.out
end Go.Proofs.YtnjpfhihbjihbaaGreatDoor

/- The law's own functions: build, same. -/
namespace Go.Proofs.YtnjpfhihbjihbaaGreatDoor
open Go.RowKit Go.Sort

open Go.ChangeMaps
theorem box5_all {w w1 : World} {a b c d e : Value} {T : TypeId} {r : Nat × Nat} (hb : Below (w.alloc (Obj.cells #[a, b, c, d, e] T r)).heap.size (w.alloc (Obj.cells #[a, b, c, d, e] T r)) w1) :
    Below w.heap.size w w1 ∧ w.heap.size < w1.heap.size ∧ w1.cell? ⟨w.heap.size, 0, none⟩ = some a ∧ w1.cell? ⟨w.heap.size, 1, none⟩ = some b ∧ w1.cell? ⟨w.heap.size, 2, none⟩ = some c ∧ w1.cell? ⟨w.heap.size, 3, none⟩ = some d ∧ w1.cell? ⟨w.heap.size, 4, none⟩ = some e := by
  have hs : (w.alloc (Obj.cells #[a, b, c, d, e] T r)).heap.size = w.heap.size + 1 := by show (w.heap.push _).size = _; simp
  have hlt : w.heap.size < (w.alloc (Obj.cells #[a, b, c, d, e] T r)).heap.size := by omega
  have h1 := hb.size
  have h0 : (w.alloc (Obj.cells #[a, b, c, d, e] T r)).heap[w.heap.size]? = some (Obj.cells #[a, b, c, d, e] T r) := alloc_at' w _
  refine ⟨Below.trans (b := w.alloc (Obj.cells #[a, b, c, d, e] T r)) (by (repeat (first | exact Below.refl _ _ | refine Below.drew ?_ | (refine below_gw' ?_ (by first | omega | (simp [go_sem]; done) | (simp [go_sem]; omega)) _) | (refine Below.alloc ?_ (by first | omega | (simp [go_sem]; done) | (simp [go_sem]; omega)) _) | (refine Below.setCell ?_ (by first | omega | (simp [go_sem]; done) | (simp [go_sem]; omega)) _)))) (hb.mono (by omega)), by omega, (hb.cell (p := ⟨w.heap.size, 0, none⟩) hlt).trans (cell_at h0 0), (hb.cell (p := ⟨w.heap.size, 1, none⟩) hlt).trans (cell_at h0 1), (hb.cell (p := ⟨w.heap.size, 2, none⟩) hlt).trans (cell_at h0 2), (hb.cell (p := ⟨w.heap.size, 3, none⟩) hlt).trans (cell_at h0 3), (hb.cell (p := ⟨w.heap.size, 4, none⟩) hlt).trans (cell_at h0 4)⟩
theorem own_empty {w : World} {base g : Nat} {T : TypeId} {sz : Nat} (h : w.heap[g]? = some (Obj.cells #[] T (0, 0))) (hb : base ≤ g) : w.ownsRow base T sz (.slice (some ⟨g, 0, none⟩) 0 0) 0 [] :=
  ⟨by simp, .inr ⟨g, 0, #[], rfl, hb, h, by simp, by simp, by simp, by simp⟩⟩
theorem alloc_at2 (w : World) (o1 o2 : Obj) : ((w.alloc o1).alloc o2).heap[w.heap.size]? = some o1 := by
  show (Array.push (Array.push w.heap _) _)[_]? = _
  simp only [Array.getElem?_push, Array.size_push]
  rw [if_neg (by omega)]; simp
theorem alloc_at3 (w : World) (o1 o2 : Obj) : ((w.alloc o1).alloc o2).heap[w.heap.size + 1]? = some o2 := by
  show (Array.push (Array.push w.heap _) _)[_]? = _
  simp only [Array.getElem?_push, Array.size_push]
  simp
theorem src_tab {w : World} {v : Value} {R : List (Sy × Value)} (h : RTab w v R) (hn : R = [] → v = .slice none 0 0) : SrcAt w v R.length (R.flatMap rsymc) := by
  by_cases hR : R = []
  · left; exact ⟨by rw [hR]; rfl, hn hR⟩
  · right
    obtain ⟨a, cap, hv, _, hr⟩ := h.row
    obtain ⟨g, o, ha, hg, hc⟩ := hr (flat_ne rsymc 5 (fun _ => rfl) (by decide) hR)
    refine ⟨⟨g, o, none⟩, cap, by rw [hv, ha], fun j u hj => ?_⟩
    rw [addr_add, hc j (List.getElem?_eq_some_iff.1 hj).1]
    exact hj
theorem one_src {w : World} {g : Nat} {a b c d e : Value} {T : TypeId} {r : Nat × Nat} (h : w.heap[g]? = some (Obj.cells #[a, b, c, d, e] T r)) : ∀ (j : Nat) (u : Value), [a, b, c, d, e][j]? = some u → w.cell? ((⟨g, 0, none⟩ : Addr).add j) = some u := fun j u hj => by
  rw [addr_add, Nat.zero_add, cell_at h j, ← hj]
  simp
theorem one5 {a b c d e : Value} (ha : a.oneCell' = true) (hb : b.oneCell' = true) (hc : c.oneCell' = true) (hd : d.oneCell' = true) (he : e.oneCell' = true) : ∀ u ∈ [a, b, c, d, e], u.oneCell' = true := fun u hu => by
  simp only [List.mem_cons, List.not_mem_nil, or_false] at hu
  rcases hu with rfl | rfl | rfl | rfl | rfl <;> assumption
theorem rsymc_one {w : World} {v : Value} {R : List (Sy × Value)} (h : RTab w v R) : ∀ u ∈ R.flatMap rsymc, u.oneCell' = true := fun u hu => by
  obtain ⟨x, hx, hu⟩ := List.mem_flatMap.1 hu
  obtain ⟨p, hp⟩ := (h.2 x hx).ptr
  exact one5 rfl rfl (by rw [hp]; rfl) rfl rfl u hu
theorem own_low {w : World} {base : Nat} {e : TypeId} {size : Nat} {v : Value} {n : Nat} {xs : List Value} (h : w.ownsRow base e size v n xs) : ∀ k, v.ownBlock = some k → base ≤ k := fun k hk => by
  rcases h.2 with ⟨h1, _⟩ | ⟨g, cap, cur, h1, hg, _⟩
  · rw [h1] at hk; cases hk
  · rw [h1] at hk; cases hk; exact hg
theorem rtab_snoc {w : World} {base : Nat} {v v0 : Value} {R : List (Sy × Value)} {x : Sy × Value} (h : RTab w v0 R) (ho : w.ownsRow base 31 5 v (R.length + 1) (R.flatMap rsymc ++ rsymc x)) (hx : OptAt 89 w x.1.ex x.2) : RTab w v (R ++ [x]) := by
  refine ⟨?_, fun y hy => ?_⟩
  · refine ⟨base, ?_⟩
    rw [List.length_append, List.flatMap_append]
    simpa using ho
  · rcases List.mem_append.1 hy with hy | hy
    · exact h.2 y hy
    · rw [List.mem_singleton] at hy; subst hy; exact hx
theorem symInfo : (Tryz.prog.info? 31).map (fun i => (i.zero, i.size, i.bytes)) = some (some (.agg #[.string ⟨#[]⟩, .int .i64 0, .pointer none, .int .i64 0, .int .i64 0]), 5, 48) := by kernel_rfl
/-- What Define of the reference leaves. -/
def RDefRes (R : List (Sy × Value)) (x : Sy × Value) (w : World) (e : Ending) (w' : World) : Prop :=
  Below w.heap.size w w' ∧ ∃ v, ((sfindS (R.map Prod.fst) x.1.name).isSome = true ∧ e = .returned (.tuple #[v, .int .i64 14]) ∧ RTab w' v R ∨ (sfindS (R.map Prod.fst) x.1.name).isSome = false ∧ e = .returned (.tuple #[v, .int .i64 0]) ∧ RTab w' v (R ++ [x]))
set_option maxHeartbeats 2000000 in
set_option maxRecDepth 100000 in
theorem rdefine_any (R : List (Sy × Value)) (x : Sy × Value) (v : Value) (w : World) (hR : RTab w v R) (hnil : R = [] → v = .slice none 0 0) (hl : R.length ≤ 1000) (hx : OptAt 89 w x.1.ex x.2) :
    Calls Tryz.prog 33 #[v, .agg #[.string x.1.name, .int .i64 x.1.n, x.2, .int .i64 x.1.here, .int .i64 x.1.line]] w (RDefRes R x w) := by
  obtain ⟨i0, hi, hz0, hz1, hz2⟩ := info_parts symInfo
  obtain ⟨q, hq⟩ := hx.ptr
  obtain ⟨⟨name, n, ex, here, line⟩, xv⟩ := x
  dsimp only at *
  subst hq
  have hfi := fun w' hR' => find20_any R name v w' hR' (by omega)
  have hng := sidx_neg (R.map Prod.fst) name
  obtain ⟨a, cap, rfl, hcap, hc⟩ := hR.parts
  have hl1 : (R.length : Int) ≤ 1000 := by omega
  have hc1 : (R.length : Int) ≤ (cap : Int) := by omega
  have HRT := Lib.hid hR
  have HONE := Lib.hid (rsymc_one hR)
  have HNIL := Lib.hid hnil; clear hnil
  have HFI := Lib.hid hfi
  have HX := Lib.hid hx
  generalize hsx : sidx (R.map Prod.fst) name = sx at HFI hng
  clear hsx hR hfi hc hx
  rcases hf : sfindS (R.map Prod.fst) name with _ | s
  · have hlt : sx < 0 := hng.1.2 hf
    have hge : ¬ 0 ≤ sx := by omega
    have HF : Hid ((sfindS (R.map Prod.fst) name).isSome = false) := Lib.hid (by rw [hf]; rfl)
    clear hng hf
    go_enter Tryz.func33, Tryz.ntmps33
    go_wp2_with fail
    (with_reducible refine (HFI.out _ (HRT.out.below (by (repeat (first | exact Below.refl _ _ | refine Below.drew ?_ | (refine below_gw' ?_ (by first | omega | (simp [go_sem]; done) | (simp [go_sem]; omega)) _) | (refine Below.alloc ?_ (by first | omega | (simp [go_sem]; done) | (simp [go_sem]; omega)) _) | (refine Below.setCell ?_ (by first | omega | (simp [go_sem]; done) | (simp [go_sem]; omega)) _)))))).mono ?_)
    rintro e w1 ⟨rfl, hb1⟩
    obtain ⟨hbw, hsz1, k0, k1, k2, k3, k4⟩ := box5_all hb1
    have HBW := Lib.hid hbw
    have HRT1 := Lib.hid (HRT.out.below hbw)
    clear hb1 hbw
    go_wp2_with fail
    go_region_law (first
      | (refine step_append_src (by rfl) _ _ 26 (by rfl) w.heap.size 31 i0 (.agg #[.string ⟨#[]⟩, .int .i64 0, .pointer none, .int .i64 0, .int .i64 0]) 5 48 Tryz.underlying26 hi hz0 hz1 hz2 rfl (by decide) _ 0 [] (by rfl) (own_empty (by first | exact alloc_at' _ _ | exact alloc_at2 _ _ _ | exact alloc_at3 _ _ _) (by omega)) _ R.length (R.flatMap rsymc) (by rfl) (src_tab (HRT1.out.below (by (repeat (first | exact Below.refl _ _ | refine Below.drew ?_ | (refine below_gw' ?_ (by first | omega | (simp [go_sem]; done) | (simp [go_sem]; omega)) _) | (refine Below.alloc ?_ (by first | omega | (simp [go_sem]; done) | (simp [go_sem]; omega)) _) | (refine Below.setCell ?_ (by first | omega | (simp [go_sem]; done) | (simp [go_sem]; omega)) _))))) HNIL.out) (flat_len rsymc 5 (fun _ => rfl) R) HONE.out (by unfold maxLen; omega) (by omega) (Nat.le_trans (Nat.le_of_lt hsz1) (Below.size (show Below w1.heap.size w1 _ by (repeat (first | exact Below.refl _ _ | refine Below.drew ?_ | (refine below_gw' ?_ (by first | omega | (simp [go_sem]; done) | (simp [go_sem]; omega)) _) | (refine Below.alloc ?_ (by first | omega | (simp [go_sem]; done) | (simp [go_sem]; omega)) _) | (refine Below.setCell ?_ (by first | omega | (simp [go_sem]; done) | (simp [go_sem]; omega)) _)))))) ?_; intro v2 w2 hown2 hgrow2 hnil2; simp only [Nat.zero_add, List.nil_append] at hown2; have hb2 : Below w1.heap.size w1 w2 := Below.grown (show Below w1.heap.size w1 _ by (repeat (first | exact Below.refl _ _ | refine Below.drew ?_ | (refine below_gw' ?_ (by first | omega | (simp [go_sem]; done) | (simp [go_sem]; omega)) _) | (refine Below.alloc ?_ (by first | omega | (simp [go_sem]; done) | (simp [go_sem]; omega)) _) | (refine Below.setCell ?_ (by first | omega | (simp [go_sem]; done) | (simp [go_sem]; omega)) _)))) hgrow2 (Below.size (show Below w1.heap.size w1 _ by (repeat (first | exact Below.refl _ _ | refine Below.drew ?_ | (refine below_gw' ?_ (by first | omega | (simp [go_sem]; done) | (simp [go_sem]; omega)) _) | (refine Below.alloc ?_ (by first | omega | (simp [go_sem]; done) | (simp [go_sem]; omega)) _) | (refine Below.setCell ?_ (by first | omega | (simp [go_sem]; done) | (simp [go_sem]; omega)) _))))) (fun q hq => by have h := Option.some.inj hq; dsimp only at h; omega); have m0 := (hb2.cell (p := ⟨w.heap.size, 0, none⟩) hsz1).trans k0; have m1 := (hb2.cell (p := ⟨w.heap.size, 1, none⟩) hsz1).trans k1; have m2 := (hb2.cell (p := ⟨w.heap.size, 2, none⟩) hsz1).trans k2; have m3 := (hb2.cell (p := ⟨w.heap.size, 3, none⟩) hsz1).trans k3; have m4 := (hb2.cell (p := ⟨w.heap.size, 4, none⟩) hsz1).trans k4)
      | (refine step_append_src (by rfl) _ _ 26 (by rfl) w.heap.size 31 i0 (.agg #[.string ⟨#[]⟩, .int .i64 0, .pointer none, .int .i64 0, .int .i64 0]) 5 48 Tryz.underlying26 hi hz0 hz1 hz2 rfl (by decide) v2 R.length (R.flatMap rsymc) (by rfl) (owns_below' hown2 (by (repeat (first | exact Below.refl _ _ | refine Below.drew ?_ | (refine below_gw' ?_ (by first | omega | (simp [go_sem]; done) | (simp [go_sem]; omega)) _) | (refine Below.alloc ?_ (by first | omega | (simp [go_sem]; done) | (simp [go_sem]; omega)) _) | (refine Below.setCell ?_ (by first | omega | (simp [go_sem]; done) | (simp [go_sem]; omega)) _))))) _ 1 [.string name, .int .i64 n, .pointer q, .int .i64 here, .int .i64 line] (by rfl) (.inr ⟨_, 1, rfl, one_src (by first | exact alloc_at' w2 _ | exact (hgrow2.block _ (by show _ < (Array.push (Array.push _ _) _).size; simp) (by simp [Value.ownBlock])).trans (alloc_at3 _ _ _) | exact (hgrow2.block _ (by show _ < (Array.push (Array.push _ _) _).size; simp; omega) (by simp [Value.ownBlock])).trans (alloc_at2 _ _ _))⟩) (by rfl) (one5 (by rfl) (by rfl) (by rfl) (by rfl) (by rfl)) (by unfold maxLen; omega) (by omega) (Nat.le_trans (Nat.le_of_lt (Nat.lt_of_lt_of_le hsz1 hb2.size)) (Below.size (show Below w2.heap.size w2 _ by (repeat (first | exact Below.refl _ _ | refine Below.drew ?_ | (refine below_gw' ?_ (by first | omega | (simp [go_sem]; done) | (simp [go_sem]; omega)) _) | (refine Below.alloc ?_ (by first | omega | (simp [go_sem]; done) | (simp [go_sem]; omega)) _) | (refine Below.setCell ?_ (by first | omega | (simp [go_sem]; done) | (simp [go_sem]; omega)) _)))))) ?_; intro v3 w3 hown3 hgrow3 hnil3; have hb3 : Below w.heap.size w w3 := Below.grown (HBW.out.trans ((hb2.mono (Nat.le_of_lt hsz1)).trans (Below.mono (show Below w2.heap.size w2 _ by (repeat (first | exact Below.refl _ _ | refine Below.drew ?_ | (refine below_gw' ?_ (by first | omega | (simp [go_sem]; done) | (simp [go_sem]; omega)) _) | (refine Below.alloc ?_ (by first | omega | (simp [go_sem]; done) | (simp [go_sem]; omega)) _) | (refine Below.setCell ?_ (by first | omega | (simp [go_sem]; done) | (simp [go_sem]; omega)) _)))) (Nat.le_of_lt (Nat.lt_of_lt_of_le hsz1 hb2.size))))) hgrow3 (Nat.le_trans (Nat.le_of_lt (Nat.lt_of_lt_of_le hsz1 hb2.size)) (Below.size (show Below w2.heap.size w2 _ by (repeat (first | exact Below.refl _ _ | refine Below.drew ?_ | (refine below_gw' ?_ (by first | omega | (simp [go_sem]; done) | (simp [go_sem]; omega)) _) | (refine Below.alloc ?_ (by first | omega | (simp [go_sem]; done) | (simp [go_sem]; omega)) _) | (refine Below.setCell ?_ (by first | omega | (simp [go_sem]; done) | (simp [go_sem]; omega)) _)))))) (own_low hown2)))
    all_goals
      have HO3 := Lib.hid hown3
      have HB3 := Lib.hid hb3
      clear hown3 hgrow3 hnil3 hb3 m0 m1 m2 m3 m4 hb2 hown2 hgrow2 hnil2 k0 k1 k2 k3 k4
      go_wp2_with fail
      exact bodyPost_ret (v := .tuple #[v3, .int .i64 0]) (by simp [results, Tryz.results33, go_sem]) rfl ⟨HB3.out, v3, .inr ⟨HF.out, rfl, rtab_snoc (HRT.out.below HB3.out) HO3.out (OptAt.below HX.out HB3.out)⟩⟩
  · have hge : 0 ≤ sx := by
      rcases Int.lt_or_le sx 0 with h | h
      · have := hng.1.1 h; rw [hf] at this; cases this
      · exact h
    have HF : Hid ((sfindS (R.map Prod.fst) name).isSome = true) := Lib.hid (by rw [hf]; rfl)
    clear hng hf
    go_enter Tryz.func33, Tryz.ntmps33
    go_wp2_with fail
    (with_reducible refine (HFI.out _ (HRT.out.below (by (repeat (first | exact Below.refl _ _ | refine Below.drew ?_ | (refine below_gw' ?_ (by first | omega | (simp [go_sem]; done) | (simp [go_sem]; omega)) _) | (refine Below.alloc ?_ (by first | omega | (simp [go_sem]; done) | (simp [go_sem]; omega)) _) | (refine Below.setCell ?_ (by first | omega | (simp [go_sem]; done) | (simp [go_sem]; omega)) _)))))).mono ?_)
    rintro e w1 ⟨rfl, hb1⟩
    obtain ⟨p1, rfl⟩ := gw_of_below hb1
    clear hb1
    go_wp2_with fail
    exact bodyPost_ret (v := .tuple #[.slice a R.length cap, .int .i64 14]) (by simp [results, Tryz.results33, go_sem]) rfl ⟨by (repeat (first | exact Below.refl _ _ | refine Below.drew ?_ | (refine below_gw' ?_ (by first | omega | (simp [go_sem]; done) | (simp [go_sem]; omega)) _) | (refine Below.alloc ?_ (by first | omega | (simp [go_sem]; done) | (simp [go_sem]; omega)) _) | (refine Below.setCell ?_ (by first | omega | (simp [go_sem]; done) | (simp [go_sem]; omega)) _))), _, .inl ⟨HF.out, rfl, HRT.out.below (by (repeat (first | exact Below.refl _ _ | refine Below.drew ?_ | (refine below_gw' ?_ (by first | omega | (simp [go_sem]; done) | (simp [go_sem]; omega)) _) | (refine Below.alloc ?_ (by first | omega | (simp [go_sem]; done) | (simp [go_sem]; omega)) _) | (refine Below.setCell ?_ (by first | omega | (simp [go_sem]; done) | (simp [go_sem]; omega)) _))))⟩⟩
end Go.Proofs.YtnjpfhihbjihbaaGreatDoor
