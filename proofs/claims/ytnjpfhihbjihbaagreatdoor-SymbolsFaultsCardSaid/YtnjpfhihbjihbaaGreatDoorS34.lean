/- Joined texts: RKnown. -/
import Derived.Test.YtnjpfhihbjihbaaGreatDoorS30
import Derived.Test.YtnjpfhihbjihbaaGreatDoorS32
import Derived.Test.YtnjpfhihbjihbaaGreatDoorS33
/- breadboardref20: complete, Known. -/
namespace Go.Proofs.YtnjpfhihbjihbaaGreatDoor
open Go.RowKit Go.Sort

set_option maxHeartbeats 1000000 in
theorem complete20_any (x : Option Ex) (hx : oNodes x ≤ 1000000) (l : List (ByteArray × Int)) (hl : l.length ≤ 1000000) (hall : ∀ t ∈ oSyms x, ∃ n, envL l ⟨t.toArray⟩ = some n) (ve v : Value) (w : World) (ho : OptAt 89 w x ve) (hr : Row w v l.length (valc l)) :
    Calls Tryz.prog 44 #[ve, v] w fun e w' => e = .returned (.bool true) ∧ Below w.heap.size w w' := by
  have hnm := rnames17_any (oNodes x) x (Nat.le_refl _) hx ve w ho
  unfold RNRes at hnm
  have hlen := oSyms_len x
  obtain ⟨ns, hns⟩ : ∃ ns, oSyms x = ns := ⟨_, rfl⟩
  rw [hns] at hnm hlen hall
  have hn6 : (ns.length : Int) ≤ 1000000 := by omega
  have hhas := fun s w hr => has20_any l s v w hr hl
  have HR := Lib.hid hr
  have HALL := Lib.hid hall; clear hall
  have HNM := Lib.hid hnm; clear hnm hns hr ho
  have HHAS := Lib.hid hhas; clear hhas
  go_enter Tryz.func44, Tryz.ntmps44
  go_wp2_with fail
  (with_reducible refine HNM.out.mono ?_)
  rintro e w1 ⟨vn, rfl, hrow, _, hb1⟩
  obtain ⟨p1, rfl⟩ := gw_of_below hb1
  clear hb1
  obtain ⟨a, cap, rfl, hcap, hc⟩ := (Row.of_owns hrow).strs
  have hc1 : (ns.length : Int) ≤ (cap : Int) := by omega
  have HC := Lib.hid hc; clear hc hrow
  go_wp2_with fail
  go_loopw [6] (fun i wr => ∃ k : Nat, k ≤ ns.length ∧ i = .int .i64 k ∧ Below (gw w p1).heap.size (gw w p1) wr) (fun i _ => ns.length - (intOf i).toNat)
  case atStart => exact ⟨0, Nat.zero_le _, rfl, Below.refl _ _⟩
  case round =>
    obtain ⟨k, hk, rfl, hbel⟩ := hrel
    have HBEL := Lib.hid hbel; clear hbel
    by_cases hlt : k < ns.length
    · obtain ⟨t, ht⟩ : ∃ t, ns[k]? = some t := ⟨_, List.getElem?_eq_getElem (by omega)⟩
      obtain ⟨g, o, rfl, hg, hcs⟩ := HC.out (by rintro rfl; simp at ht)
      have f0 := (HBEL.out.cell (p := ⟨g, o + k, none⟩) hg).trans (hcs k t ht)
      obtain ⟨n, hn⟩ := HALL.out t (List.mem_of_getElem? ht)
      have hh := HHAS.out ⟨t.toArray⟩ wr ((HR.out.below (below_gw w p1)).below HBEL.out)
      rw [hn] at hh
      have HH := Lib.hid hh; clear hh hn hcs ht
      have hi0 : (0 : Int) ≤ (k : Int) := by omega
      have hi1 : (k : Int) < (ns.length : Int) := by omega
      go_wp2_with fail
      (with_reducible refine HH.out.mono ?_)
      rintro e w2 ⟨rfl, hb2⟩
      have HB2 : Hid (Below (gw w p1).heap.size (gw w p1) w2) := Lib.hid (HBEL.out.trans (hb2.mono HBEL.out.size))
      clear hb2
      go_wp2_with fail
      go_roundw
      case rel => exact ⟨k + 1, by omega, by go_num, HB2.out⟩
      case measure => simp [intOf]; omega
    · obtain rfl : k = ns.length := by omega
      go_wp2_with fail
      go_ret
      exact ⟨rfl, (below_gw w p1).trans (HBEL.out.mono (by simp [go_sem]))⟩
theorem valInfo : (Tryz.prog.info? 96).map (fun i => (i.zero, i.size, i.bytes)) = some (some (.agg #[.string ⟨#[]⟩, .int .i64 0]), 2, 24) := by kernel_rfl
theorem valc_snoc (l : List (ByteArray × Int)) (s : ByteArray) (n : Int) : valc l ++ [.string s, .int .i64 n] = valc (l ++ [(s, n)]) := by simp [valc]
theorem foldR_take (L : List Sy) (acc : List (ByteArray × Int)) (k : Nat) (s : Sy) (h : L[k]? = some s) : (L.take (k + 1)).foldl stepR acc = stepR ((L.take k).foldl stepR acc) s := by
  rw [List.take_add_one, h, List.foldl_append]; rfl
theorem foldR_bd (L : List Sy) : ∀ (M : List Sy) (acc : List (ByteArray × Int)), (M.foldl stepR acc).length ≤ acc.length + M.length
  | [], acc => by simp
  | s :: M, acc => by
    have h1 := (stepR_len acc s).2.2
    have h2 := foldR_bd L M (stepR acc s)
    rw [List.foldl_cons, List.length_cons]; omega
set_option maxHeartbeats 4000000 in
set_option maxRecDepth 100000 in
theorem known20_any (R : List (Sy × Value)) (v : Value) (w : World) (hr : RTab w v R) (hl : R.length ≤ 1000) (hok : ∀ x ∈ R, SyOk x.1) (hnd : ((R.map Prod.fst).map Sy.name).Nodup) :
    Calls Tryz.prog 15 #[v] w fun e w' => ∃ vo, e = .returned vo ∧ Row w' vo (knownR (R.map Prod.fst)).length (valc (knownR (R.map Prod.fst))) ∧ Below w.heap.size w w' := by
  obtain ⟨i0, hi, hz0, hz1, hz2⟩ := info_parts valInfo
  obtain ⟨L, hL⟩ : ∃ L, R.map Prod.fst = L := ⟨_, rfl⟩
  have hlen : L.length = R.length := by rw [← hL]; simp
  obtain ⟨a, cap, rfl, hcap, hc⟩ := hr.parts
  have hl1 : (R.length : Int) ≤ 1000 := by omega
  have hc1 : (R.length : Int) ≤ (cap : Int) := by omega
  have hl0 : (0 : Int) ≤ (R.length : Int) := by omega
  have HC := Lib.hid hc
  have HR := Lib.hid hr
  have HGET : Hid (∀ (k : Nat) (x : Sy × Value), R[k]? = some x → L[k]? = some x.1) := Lib.hid fun k x h => by rw [← hL, List.getElem?_map, h]; rfl
  have HOK := Lib.hid hok
  have HND : Hid ((L.map Sy.name).Nodup) := Lib.hid (by rw [← hL]; exact hnd)
  have HINV : Hid (∀ k r, RInv L ((L.take k).foldl stepR (roundsR L r)) ∧ ((L.take k).foldl stepR (roundsR L r)).length ≤ 1000) := Lib.hid fun k r => by
    have h := RInv.fold HND.out (L.take k) (roundsR L r) (fun s hs => List.mem_of_mem_take hs) (RInv.rounds HND.out r)
    exact ⟨h, by have := h.len; omega⟩
  have HIN : Hid (∀ acc, RInv L acc → ∀ s n, envL acc s = some n → -2147483648 ≤ n ∧ n ≤ 2147483647) := Lib.hid fun acc hi s n hn => Kn_in (L := L) (fun s hs => by
    rw [← hL] at hs
    obtain ⟨x, hx, rfl⟩ := List.mem_map.1 hs
    exact hok x hx) s n (hi.sound s n hn)
  rw [hL]
  have HLEN := Lib.hid hlen
  clear hc hr hL hok hnd hlen
  go_enter Tryz.func15, Tryz.ntmps15
  go_wp2_with fail
  go_loopw [3, 4] (fun u i wr => ∃ r : Nat, r ≤ R.length + 1 ∧ i = .int .i64 r ∧ wr.ownsRow w.heap.size 96 2 u (roundsR L r).length (valc (roundsR L r)) ∧ Below w.heap.size w wr) (fun _ i _ => R.length + 1 - (intOf i).toNat)
  case atStart => exact ⟨0, Nat.zero_le _, rfl, World.ownsRow_nil _ _ _ _, Below.refl _ _⟩
  case round =>
    obtain ⟨r, hrl, rfl, hown, hbel⟩ := hrel
    have HBEL := Lib.hid hbel; clear hbel
    have HOWN := Lib.hid hown; clear hown
    by_cases hlt : r ≤ R.length
    · have hi0 : (0 : Int) ≤ (r : Int) := by omega
      have hi1 : (r : Int) ≤ (R.length : Int) := by omega
      obtain ⟨wo, rfl⟩ : ∃ wo : World, wo = wr := ⟨_, rfl⟩
      go_wp2_with fail
      go_loopw [3, 5] (fun u i wr => ∃ k : Nat, k ≤ R.length ∧ i = .int .i64 k ∧ wr.ownsRow w.heap.size 96 2 u ((L.take k).foldl stepR (roundsR L r)).length (valc ((L.take k).foldl stepR (roundsR L r))) ∧ Below w.heap.size w wr) (fun _ i _ => R.length - (intOf i).toNat)
      case atStart => exact ⟨0, Nat.zero_le _, rfl, HOWN.out, HBEL.out⟩
      case round =>
        clear HOWN HBEL
        obtain ⟨k, hk, rfl, hown, hbel⟩ := hrel
        have HBEL := Lib.hid hbel
        have hsz : w.heap.size ≤ wr.heap.size := hbel.size
        clear hbel
        by_cases hlk : k < R.length
        · obtain ⟨x, hx⟩ : ∃ x, R[k]? = some x := ⟨_, List.getElem?_eq_getElem hlk⟩
          obtain ⟨g, o, rfl, hg, hcs⟩ := HC.out (by rintro rfl; simp at hx)
          obtain ⟨e0, e1, e2, e3, e4⟩ := hcs k x hx
          have hb := HBEL.out
          have f0 := (hb.cell (p := ⟨g, o + k * 5, none⟩) hg).trans e0
          have f1 := (hb.cell (p := ⟨g, o + k * 5 + 1, none⟩) hg).trans e1
          have f2 := (hb.cell (p := ⟨g, o + k * 5 + 2, none⟩) hg).trans e2
          have f3 := (hb.cell (p := ⟨g, o + k * 5 + 3, none⟩) hg).trans e3
          have hgr : g < wr.heap.size := by omega
          have hnx := foldR_take L (roundsR L r) k x.1 (HGET.out k x hx)
          obtain ⟨hinv, hal⟩ := HINV.out k r
          have hno : OptAt 89 wr x.1.ex x.2 := (HR.out.2 x (List.mem_of_getElem? hx)).below hb
          have hsok := HOK.out x (List.mem_of_getElem? hx)
          generalize (L.take k).foldl stepR (roundsR L r) = acc at hown hnx hinv hal
          have hhas := fun s w v hr => has20_any acc s v w hr (by omega)
          have hrow := Row.of_owns hown
          have HOWN := Lib.hid hown; clear hown
          have HROW := Lib.hid hrow; clear hrow
          have hi0 : (0 : Int) ≤ (k : Int) := by omega
          have hi1 : (k : Int) < (R.length : Int) := by omega
          clear hcs e0 e1 e2 e3 e4 hb hx
          obtain ⟨⟨name, n, ex, here, line⟩, vx⟩ := x
          simp only at f0 f1 f2 f3 hno hnx
          have hh := hhas name wr _ HROW.out
          rcases hb : (envL acc name).isSome with _ | _
          · rw [hb] at hh
            have HH := Lib.hid hh; clear hh hhas
            cases ex with
            | none =>
              obtain rfl : vx = .pointer none := hno
              have hco := fun w v hr => complete20_any none (Nat.zero_le _) acc (by omega) (fun t ht => by simp [oSyms] at ht) (.pointer none) v w rfl hr
              have hnx2 : (L.take (k + 1)).foldl stepR (roundsR L r) = acc ++ [(name, n)] := by
                rw [hnx]; unfold stepR Sy.ev; simp only [hb]; simp
              have HNX := Lib.hid hnx2
              have HCO := Lib.hid hco
              clear hnx hnx2 hco hb hinv hsok
              go_wp2_with fail
              (with_reducible refine HH.out.mono ?_)
              rintro e w1 ⟨rfl, hb1⟩
              obtain ⟨p1, rfl⟩ := gw_of_below hb1
              clear hb1
              have hgr1 : g < wr.heap.size + p1.os.size := by omega
              go_wp2_with fail
              (with_reducible refine (HCO.out _ _ (HROW.out.below (below_gw _ _))).mono ?_)
              rintro e w1 ⟨rfl, hb1⟩
              obtain ⟨p2, rfl⟩ := gw_of_below hb1
              clear hb1
              have hgr2 : g < wr.heap.size + p1.os.size + p2.os.size := by omega
              go_wp2_with (at_builtin; refine wpList_append_own _ rfl _ _ 42 rfl w.heap.size 96 i0 (.agg #[.string ⟨#[]⟩, .int .i64 0]) 2 24 Tryz.underlying42 hi hz0 hz1 hz2 rfl (by decide) _ _ _ rfl (owns_below' HOWN.out (by (repeat (first | exact Below.refl _ _ | refine Below.drew ?_ | (refine below_gw' ?_ (by first | omega | (simp [go_sem]; done) | (simp [go_sem]; omega)) _) | (refine Below.alloc ?_ (by first | omega | (simp [go_sem]; done) | (simp [go_sem]; omega)) _) | (refine Below.setCell ?_ (by first | omega | (simp [go_sem]; done) | (simp [go_sem]; omega)) _))))) _ 1 1 [.string name, .int .i64 n] rfl rfl ?d1 ?d2 ?d3 ?d4 ?d5 ?_)
              case d1 =>
                intro q u hq
                rw [addr_add]
                match q, hq with
                | 0, hq => simp at hq; subst hq; simp [go_sem]
                | 1, hq => simp at hq; subst hq; simp [go_sem]
              case d2 => first | exact ⟨rfl, rfl⟩ | (intro u hu; simp at hu; rcases hu with rfl | rfl <;> rfl) | rfl
              case d3 => unfold maxLen; omega
              case d4 => omega
              case d5 => (first | omega | (simp [go_sem]; done) | (simp [go_sem]; omega))
              intro v' w2 hown' hgrow _
              have hb' : Below w.heap.size w w2 := (HBEL.out.trans (Below.mono (show Below wr.heap.size wr _ by (repeat (first | exact Below.refl _ _ | refine Below.drew ?_ | (refine below_gw' ?_ (by first | omega | (simp [go_sem]; done) | (simp [go_sem]; omega)) _) | (refine Below.alloc ?_ (by first | omega | (simp [go_sem]; done) | (simp [go_sem]; omega)) _) | (refine Below.setCell ?_ (by first | omega | (simp [go_sem]; done) | (simp [go_sem]; omega)) _)))) hsz)).grown hgrow (by (first | omega | (simp [go_sem]; done) | (simp [go_sem]; omega))) (by
                intro q hq
                have := HOWN.out.2
                rcases this with ⟨h, _⟩ | ⟨g, cap, cur, h, hg, _⟩
                · rw [h] at hq; cases hq
                · rw [h] at hq; cases hq; exact hg)
              have HOWN3 := Lib.hid hown'; clear hown'
              have HB' := Lib.hid hb'; clear hb' hgrow
              go_wp2_with fail
              go_roundw
              case rel => exact ⟨k + 1, by omega, by go_num, by rw [HNX.out, ← valc_snoc, List.length_append]; exact HOWN3.out, HB'.out⟩
              case measure => simp [intOf]; omega
            | some y =>
              obtain ⟨hgd, hnd⟩ := hsok.2.2 y rfl
              have hev := fun m w h1 h2 => reval_any acc here (by omega) (HIN.out acc hinv) hsok.2.1 m y hgd vx w h1 h2
              unfold EvRes at hev
              obtain ⟨q, rfl⟩ : ∃ q, vx = .pointer (some q) := by obtain ⟨g, h, _⟩ := NodeAt.ptr hno; exact ⟨_, h⟩
              have HEV := Lib.hid hev
              have HNO := Lib.hid hno
              clear hev hno
              by_cases hc0 : (y.eval (envL acc) here).2 = 0
              · have hco := fun w v ho hr => complete20_any (some y) hnd acc (by omega) (fun t ht => by
                  obtain ⟨b, hb2, rfl⟩ := List.mem_map.1 ht
                  exact eval_has _ _ y hc0 b hb2) (.pointer (some q)) v w ho hr
                have hnx2 : (L.take (k + 1)).foldl stepR (roundsR L r) = acc ++ [(name, (y.eval (envL acc) here).1)] := by
                  rw [hnx]; unfold stepR Sy.ev; simp only [hb, hc0]; simp
                have HNX := Lib.hid hnx2
                have HCO := Lib.hid hco
                have HC0 := Lib.hid hc0
                rw [hc0] at HEV
                clear hnx hnx2 hco hb hinv hsok hc0 hgd hnd
                generalize (y.eval (envL acc) here).1 = val at *
                go_wp2_with fail
                (with_reducible refine HH.out.mono ?_)
                rintro e w1 ⟨rfl, hb1⟩
                obtain ⟨p1, rfl⟩ := gw_of_below hb1
                clear hb1
                have hgr1 : g < wr.heap.size + p1.os.size := by omega
                go_wp2_with fail
                refine wp_region_gw (by kernel_rfl) (by kernel_rfl) ?_
                repeat (go_big_quiet_step (exact gw_quiet (HEV.out _ _ ((HNO.out.below (below_gw _ _)).below (below_gw _ _)) ((HROW.out.below (below_gw _ _)).below (below_gw _ _)))))
                refine wpQuiet_nil ?_
                rintro _ ⟨p2, rfl⟩
                have hgr2 : g < wr.heap.size + p1.os.size + p2.os.size := by omega
                go_wp2_with fail
                (with_reducible refine (HCO.out _ _ ((HNO.out.below (below_gw _ _)).below (below_gw _ _)) ((HROW.out.below (below_gw _ _)).below (below_gw _ _))).mono ?_)
                rintro e w1 ⟨rfl, hb1⟩
                obtain ⟨p3, rfl⟩ := gw_of_below hb1
                clear hb1
                go_wp2_with (at_builtin; refine wpList_append_own _ rfl _ _ 42 rfl w.heap.size 96 i0 (.agg #[.string ⟨#[]⟩, .int .i64 0]) 2 24 Tryz.underlying42 hi hz0 hz1 hz2 rfl (by decide) _ _ _ rfl (owns_below' HOWN.out (by (repeat (first | exact Below.refl _ _ | refine Below.drew ?_ | (refine below_gw' ?_ (by first | omega | (simp [go_sem]; done) | (simp [go_sem]; omega)) _) | (refine Below.alloc ?_ (by first | omega | (simp [go_sem]; done) | (simp [go_sem]; omega)) _) | (refine Below.setCell ?_ (by first | omega | (simp [go_sem]; done) | (simp [go_sem]; omega)) _))))) _ 1 1 [.string name, .int .i64 val] rfl rfl ?d1 ?d2 ?d3 ?d4 ?d5 ?_)
                case d1 =>
                  intro q u hq
                  rw [addr_add]
                  match q, hq with
                  | 0, hq => simp at hq; subst hq; simp [go_sem]
                  | 1, hq => simp at hq; subst hq; simp [go_sem]
                case d2 => first | exact ⟨rfl, rfl⟩ | (intro u hu; simp at hu; rcases hu with rfl | rfl <;> rfl) | rfl
                case d3 => unfold maxLen; omega
                case d4 => omega
                case d5 => (first | omega | (simp [go_sem]; done) | (simp [go_sem]; omega))
                intro v' w2 hown' hgrow _
                have hb' : Below w.heap.size w w2 := (HBEL.out.trans (Below.mono (show Below wr.heap.size wr _ by (repeat (first | exact Below.refl _ _ | refine Below.drew ?_ | (refine below_gw' ?_ (by first | omega | (simp [go_sem]; done) | (simp [go_sem]; omega)) _) | (refine Below.alloc ?_ (by first | omega | (simp [go_sem]; done) | (simp [go_sem]; omega)) _) | (refine Below.setCell ?_ (by first | omega | (simp [go_sem]; done) | (simp [go_sem]; omega)) _)))) hsz)).grown hgrow (by (first | omega | (simp [go_sem]; done) | (simp [go_sem]; omega))) (by
                  intro q hq
                  have := HOWN.out.2
                  rcases this with ⟨h, _⟩ | ⟨g, cap, cur, h, hg, _⟩
                  · rw [h] at hq; cases hq
                  · rw [h] at hq; cases hq; exact hg)
                have HOWN3 := Lib.hid hown'; clear hown'
                have HB' := Lib.hid hb'; clear hb' hgrow
                go_wp2_with fail
                go_roundw
                case rel => exact ⟨k + 1, by omega, by go_num, by rw [HNX.out, ← valc_snoc, List.length_append]; exact HOWN3.out, HB'.out⟩
                case measure => simp [intOf]; omega
              · have hcb : ((y.eval (envL acc) here).2 == 0) = false := by simpa using hc0
                have hnx2 : (L.take (k + 1)).foldl stepR (roundsR L r) = acc := by
                  rw [hnx]; unfold stepR Sy.ev; simp only [hb, hc0]; simp
                have HNX := Lib.hid hnx2
                clear hnx hnx2 hb hinv hsok hc0 hgd hnd
                go_wp2_with fail
                (with_reducible refine HH.out.mono ?_)
                rintro e w1 ⟨rfl, hb1⟩
                obtain ⟨p1, rfl⟩ := gw_of_below hb1
                clear hb1
                have hgr1 : g < wr.heap.size + p1.os.size := by omega
                go_wp2_with fail
                refine wp_region_gw (by kernel_rfl) (by kernel_rfl) ?_
                repeat (go_big_quiet_step (exact gw_quiet (HEV.out _ _ ((HNO.out.below (below_gw _ _)).below (below_gw _ _)) ((HROW.out.below (below_gw _ _)).below (below_gw _ _)))))
                refine wpQuiet_nil ?_
                rintro _ ⟨p2, rfl⟩
                have hgr2 : g < wr.heap.size + p1.os.size + p2.os.size := by omega
                go_wp2_with fail
                go_roundw
                case rel => exact ⟨k + 1, by omega, by go_num, by rw [HNX.out]; exact owns_below' HOWN.out (by (repeat (first | exact Below.refl _ _ | refine Below.drew ?_ | (refine below_gw' ?_ (by first | omega | (simp [go_sem]; done) | (simp [go_sem]; omega)) _) | (refine Below.alloc ?_ (by first | omega | (simp [go_sem]; done) | (simp [go_sem]; omega)) _) | (refine Below.setCell ?_ (by first | omega | (simp [go_sem]; done) | (simp [go_sem]; omega)) _)))), HBEL.out.trans (Below.mono (show Below wr.heap.size wr _ by (repeat (first | exact Below.refl _ _ | refine Below.drew ?_ | (refine below_gw' ?_ (by first | omega | (simp [go_sem]; done) | (simp [go_sem]; omega)) _) | (refine Below.alloc ?_ (by first | omega | (simp [go_sem]; done) | (simp [go_sem]; omega)) _) | (refine Below.setCell ?_ (by first | omega | (simp [go_sem]; done) | (simp [go_sem]; omega)) _)))) hsz)⟩
                case measure => simp [intOf]; omega
          · rw [hb] at hh
            have HH := Lib.hid hh; clear hh hhas
            have hnx2 : (L.take (k + 1)).foldl stepR (roundsR L r) = acc := by
              rw [hnx]; unfold stepR; simp only [hb]; simp
            have HNX := Lib.hid hnx2
            clear hnx hnx2 hb hinv hsok hno
            go_wp2_with fail
            (with_reducible refine HH.out.mono ?_)
            rintro e w1 ⟨rfl, hb1⟩
            obtain ⟨p1, rfl⟩ := gw_of_below hb1
            clear hb1
            have hgr1 : g < wr.heap.size + p1.os.size := by omega
            go_wp2_with fail
            go_roundw
            case rel => exact ⟨k + 1, by omega, by go_num, by rw [HNX.out]; exact owns_below' HOWN.out (by (repeat (first | exact Below.refl _ _ | refine Below.drew ?_ | (refine below_gw' ?_ (by first | omega | (simp [go_sem]; done) | (simp [go_sem]; omega)) _) | (refine Below.alloc ?_ (by first | omega | (simp [go_sem]; done) | (simp [go_sem]; omega)) _) | (refine Below.setCell ?_ (by first | omega | (simp [go_sem]; done) | (simp [go_sem]; omega)) _)))), HBEL.out.trans (Below.mono (show Below wr.heap.size wr _ by (repeat (first | exact Below.refl _ _ | refine Below.drew ?_ | (refine below_gw' ?_ (by first | omega | (simp [go_sem]; done) | (simp [go_sem]; omega)) _) | (refine Below.alloc ?_ (by first | omega | (simp [go_sem]; done) | (simp [go_sem]; omega)) _) | (refine Below.setCell ?_ (by first | omega | (simp [go_sem]; done) | (simp [go_sem]; omega)) _)))) hsz)⟩
            case measure => simp [intOf]; omega
        · obtain rfl : k = R.length := by omega
          have htk : L.take R.length = L := by rw [← HLEN.out]; exact List.take_length
          rw [htk] at hown
          have HOWN : Hid (wr.ownsRow w.heap.size 96 2 _ (roundsR L (r + 1)).length (valc (roundsR L (r + 1)))) := Lib.hid hown
          clear hown htk
          go_wp2_with fail
          go_roundw
          case rel => exact ⟨r + 1, by omega, by go_num, HOWN.out, HBEL.out⟩
          case measure => simp [intOf]; omega
    · obtain rfl : r = R.length + 1 := by omega
      have hi1 : (R.length : Int) < ((R.length + 1 : Nat) : Int) := by omega
      go_wp2_with fail
      go_ret
      refine ⟨_, rfl, ?_, HBEL.out⟩
      have := Row.of_owns HOWN.out
      rw [show knownR L = roundsR L (R.length + 1) by unfold knownR; rw [HLEN.out]]
      exact this
end Go.Proofs.YtnjpfhihbjihbaaGreatDoor
