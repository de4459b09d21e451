/- breadboardref06.regs and Named. (Written by wip/gen_regs.py.) -/
import Derived.Test.YtocgjpijjghiiaaDoorRUpper
import Derived.Test.YtocgjpijjghiiaaDoorAlive06
import Derived.Test.YtocgjpijjghiiaaDoorRef06
namespace Go.Proofs.YtocgjpijjghiiaaDoor
open Go.RowKit Go.Sort

/-- The cells of the names of a kind. -/
def kcells (k : Nat) : Array Value := ((List.range (rcount k)).map fun j => Value.string (nm k j)).toArray
theorem kcells_at (k j : Nat) (h : j < rcount k) : (kcells k)[j]? = some (.string (nm k j)) := by
  simp [kcells, h]
theorem kcells_size (k : Nat) : (kcells k).size = rcount k := by simp [kcells]

theorem kcells_1 : kcells 1 = #[.string ⟨#[66]⟩, .string ⟨#[67]⟩, .string ⟨#[68]⟩, .string ⟨#[69]⟩, .string ⟨#[72]⟩, .string ⟨#[76]⟩, .string ⟨#[]⟩, .string ⟨#[65]⟩] := by rfl
theorem kcells_2 : kcells 2 = #[.string ⟨#[73, 88, 72]⟩, .string ⟨#[73, 88, 76]⟩, .string ⟨#[73, 89, 72]⟩, .string ⟨#[73, 89, 76]⟩] := by rfl
theorem kcells_3 : kcells 3 = #[.string ⟨#[66, 67]⟩, .string ⟨#[68, 69]⟩, .string ⟨#[72, 76]⟩, .string ⟨#[83, 80]⟩, .string ⟨#[65, 70]⟩, .string ⟨#[73, 88]⟩, .string ⟨#[73, 89]⟩, .string ⟨#[65, 70, 39]⟩] := by rfl
theorem kcells_8 : kcells 8 = #[.string ⟨#[78, 90]⟩, .string ⟨#[90]⟩, .string ⟨#[78, 67]⟩, .string ⟨#[67]⟩, .string ⟨#[80, 79]⟩, .string ⟨#[80, 69]⟩, .string ⟨#[80]⟩, .string ⟨#[77]⟩] := by rfl
theorem kcells_9 : kcells 9 = #[.string ⟨#[73]⟩, .string ⟨#[82]⟩] := by rfl

set_option maxHeartbeats 400000 in
set_option maxRecDepth 100000 in
theorem regs_1 (w : World) :
    Calls Tryd.prog 35 #[.int .i64 1] w fun e w' => e = .returned (.slice (some ⟨w.heap.size, 0, none⟩) (rcount 1) (rcount 1)) ∧ w' = w.alloc (.cells (kcells 1) 9) := by
  go_enter Tryd.func35, Tryd.ntmps35
  go_wp2_with fail
  go_ret
  exact ⟨rfl, by rw [kcells_1]⟩

set_option maxHeartbeats 400000 in
set_option maxRecDepth 100000 in
theorem regs_2 (w : World) :
    Calls Tryd.prog 35 #[.int .i64 2] w fun e w' => e = .returned (.slice (some ⟨w.heap.size, 0, none⟩) (rcount 2) (rcount 2)) ∧ w' = w.alloc (.cells (kcells 2) 9) := by
  go_enter Tryd.func35, Tryd.ntmps35
  go_wp2_with fail
  go_ret
  exact ⟨rfl, by rw [kcells_2]⟩

set_option maxHeartbeats 400000 in
set_option maxRecDepth 100000 in
theorem regs_3 (w : World) :
    Calls Tryd.prog 35 #[.int .i64 3] w fun e w' => e = .returned (.slice (some ⟨w.heap.size, 0, none⟩) (rcount 3) (rcount 3)) ∧ w' = w.alloc (.cells (kcells 3) 9) := by
  go_enter Tryd.func35, Tryd.ntmps35
  go_wp2_with fail
  go_ret
  exact ⟨rfl, by rw [kcells_3]⟩

set_option maxHeartbeats 400000 in
set_option maxRecDepth 100000 in
theorem regs_8 (w : World) :
    Calls Tryd.prog 35 #[.int .i64 8] w fun e w' => e = .returned (.slice (some ⟨w.heap.size, 0, none⟩) (rcount 8) (rcount 8)) ∧ w' = w.alloc (.cells (kcells 8) 9) := by
  go_enter Tryd.func35, Tryd.ntmps35
  go_wp2_with fail
  go_ret
  exact ⟨rfl, by rw [kcells_8]⟩

set_option maxHeartbeats 400000 in
set_option maxRecDepth 100000 in
theorem regs_9 (w : World) :
    Calls Tryd.prog 35 #[.int .i64 9] w fun e w' => e = .returned (.slice (some ⟨w.heap.size, 0, none⟩) (rcount 9) (rcount 9)) ∧ w' = w.alloc (.cells (kcells 9) 9) := by
  go_enter Tryd.func35, Tryd.ntmps35
  go_wp2_with fail
  go_ret
  exact ⟨rfl, by rw [kcells_9]⟩

theorem regs_any (i : Nat) (hi : i < 5) (w : World) :
    Calls Tryd.prog 35 #[.int .i64 (kindAt i)] w fun e w' => e = .returned (.slice (some ⟨w.heap.size, 0, none⟩) (rcount (kindAt i)) (rcount (kindAt i))) ∧ w' = w.alloc (.cells (kcells (kindAt i)) 9) := by
  have : i = 0 ∨ i = 1 ∨ i = 2 ∨ i = 3 ∨ i = 4 := by omega
  rcases this with rfl | rfl | rfl | rfl | rfl
  · exact regs_1 w
  · exact regs_2 w
  · exact regs_3 w
  · exact regs_8 w
  · exact regs_9 w

theorem nm_out : ∀ (i : Fin 5) (j : Fin 9), rcount (kindAt i.val) ≤ j.val → (nm (kindAt i.val) j.val).toList.isEmpty = true := by decide +kernel
theorem wl_more (p : ByteArray → Bool) (i : Nat) (hi : i < 5) : ∀ n, rcount (kindAt i) ≤ n → n ≤ 9 → wl p (kindAt i) n = wl p (kindAt i) (rcount (kindAt i))
  | 0, h, _ => by rw [Nat.le_zero.1 h]
  | n + 1, h, h9 => by
    by_cases he : rcount (kindAt i) = n + 1
    · rw [he]
    · rw [wl_miss p _ _ (.inl (nm_out ⟨i, hi⟩ ⟨n, by omega⟩ (by simp only; omega))), wl_more p i hi n (by omega) (by omega)]
theorem wlist_kind (p : ByteArray → Bool) (i : Nat) (hi : i < 5) : wlist p (i + 1) = wlist p i ++ wl p (kindAt i) (rcount (kindAt i)) := by
  rw [wlist_succ, wl_more p i hi 9 (rcount_le (kindAt i)) (Nat.le_refl _)]
theorem alloc_sz (w : World) (o : Obj) : (w.alloc o).heap.size = w.heap.size + 1 := by show (w.heap.push o).size = _; simp
theorem alloc_at (w : World) (o : Obj) : (w.alloc o).heap[w.heap.size]? = some o := by show (w.heap.push o)[w.heap.size]? = _; simp
theorem cell_of_block {w : World} {g : Nat} {C : Array Value} {e : TypeId} {fr : Nat × Nat} (h : w.heap[g]? = some (.cells C e fr)) (j : Nat) : w.cell? ⟨g, j, none⟩ = C[j]? := by
  simp [World.cell?, h]

set_option maxHeartbeats 1000000 in
set_option maxRecDepth 100000 in
theorem rnamed_any (s : ByteArray) (w : World) (hs : s.size ≤ 1000) :
    Calls Tryd.prog 20 #[.string s] w fun e w' => ∃ v, e = .returned v ∧ Row w' v (namedO s).length (opc (namedO s)) ∧ Below w.heap.size w w' := by
  obtain ⟨i0, hi, hz0, hz1, hz2⟩ := info_parts Tryd.infoOperand
  obtain ⟨B, hB⟩ : ∃ B, w.heap.size = B := ⟨_, rfl⟩
  obtain ⟨p, hp⟩ : ∃ p : ByteArray → Bool, p = fun x => x.toList == (upper s).toList := ⟨_, rfl⟩
  have HP := Lib.hid hp; clear hp
  have HB := Lib.hid hB; clear hB
  go_enter Tryd.func20, Tryd.ntmps20
  go_wp2_with fail
  go_loopw [3, 5, 6, 7] (fun v i _ _ wr => ∃ j : Nat, j ≤ 5 ∧ i = .int .i64 j ∧ wr.ownsRow (B + 1) 23 3 v (wlist p j).length (opCells (wlist p j)) ∧ Below (B + 1) (w.alloc (.cells #[.int .i64 1, .int .i64 2, .int .i64 3, .int .i64 8, .int .i64 9] 3)) wr) (fun _ i _ _ _ => 5 - (intOf i).toNat)
  case atStart => exact ⟨0, Nat.zero_le _, rfl, World.ownsRow_nil _ _ _ _, Below.refl _ _⟩
  case round =>
    obtain ⟨j, hj, rfl, hown, hbel⟩ := hrel
    have HOWN := Lib.hid hown; clear hown
    have HBEL := Lib.hid hbel; clear hbel
    by_cases hlt : j < 5
    · have hi0 : (0 : Int) ≤ (j : Int) := by omega
      have hi1 : (j : Int) < 5 := by omega
      have hck : wr.cell? ⟨w.heap.size, j, none⟩ = some (.int .i64 (kindAt j)) := by
        have hB := HB.out
        rw [HBEL.out.cell (p := ⟨w.heap.size, j, none⟩) (by show w.heap.size < B + 1; omega)]
        have : j = 0 ∨ j = 1 ∨ j = 2 ∨ j = 3 ∨ j = 4 := by omega
        rcases this with rfl | rfl | rfl | rfl | rfl <;> simp [go_sem, kindAt]
      go_wp2_with fail
      refine (regs_any j hlt _).mono ?_
      rintro e w1 ⟨rfl, rfl⟩
      obtain ⟨k, hk⟩ : ∃ k, kindAt j = k := ⟨_, rfl⟩
      obtain ⟨n, hn⟩ : ∃ n, rcount k = n := ⟨_, rfl⟩
      have hwk := wlist_kind p j hlt
      rw [hk, hn] at hwk
      rw [hk] at hck ⊢
      rw [hn]
      have hn9 : n ≤ 9 := by rw [← hn]; exact rcount_le k
      have Hwk := Lib.hid hwk; clear hwk
      have Hn := Lib.hid hn; clear hn
      have Hk := Lib.hid hk; clear hk
      have Hck := Lib.hid hck; clear hck
      obtain ⟨wo, rfl⟩ : ∃ wo : World, wo = wr := ⟨_, rfl⟩
      have hB := HB.out
      have hsz1 : B + 1 ≤ wo.heap.size := by have := HBEL.out.size; rw [alloc_sz] at this; omega
      have hbel1 : Below (B + 1) (w.alloc (.cells #[.int .i64 1, .int .i64 2, .int .i64 3, .int .i64 8, .int .i64 9] 3)) (wo.alloc (.cells (kcells k) 9)) := HBEL.out.alloc hsz1 _
      have hown1 := HOWN.out.alloc (.cells (kcells k) 9)
      have hblk1 : (wo.alloc (.cells (kcells k) 9)).heap[wo.heap.size]? = some (.cells (kcells k) 9 (0, 0)) := alloc_at _ _
      clear hB
      have HBEL1 := Lib.hid hbel1; clear hbel1
      have HOWN1 := Lib.hid hown1; clear hown1
      have HBLK1 := Lib.hid hblk1; clear hblk1
      go_wp2_with fail
      go_loopw [3, 7] (fun v i wr => ∃ q : Nat, q ≤ n ∧ i = .int .i64 q ∧ wr.ownsRow (B + 1) 23 3 v (wlist p j ++ wl p k q).length (opCells (wlist p j ++ wl p k q)) ∧ wr.heap[wo.heap.size]? = some (.cells (kcells k) 9 (0, 0)) ∧ Below (B + 1) (w.alloc (.cells #[.int .i64 1, .int .i64 2, .int .i64 3, .int .i64 8, .int .i64 9] 3)) wr) (fun _ i _ => n - (intOf i).toNat)
      case atStart => exact ⟨0, Nat.zero_le _, rfl, by simpa [wl] using HOWN1.out, HBLK1.out, HBEL1.out⟩
      case round =>
        obtain ⟨q, hq, rfl, hown2, hblk2, hbel2⟩ := hrel
        have HOWN2 := Lib.hid hown2; clear hown2
        have HBEL2 := Lib.hid hbel2; clear hbel2
        have hsz2 : B + 1 ≤ wr.heap.size := by have h1 := HBEL2.out.size; have h2 := HB.out; rw [alloc_sz] at h1; omega
        by_cases hqlt : q < n
        · have hq0 : (0 : Int) ≤ (q : Int) := by omega
          have hq1 : (q : Int) < (n : Int) := by omega
          have hcell : wr.cell? ⟨wo.heap.size, q, none⟩ = some (.string (nm k q)) := by rw [cell_of_block hblk2, kcells_at k q (by rw [Hn.out]; exact hqlt)]
          have hck2 : wr.cell? ⟨w.heap.size, j, none⟩ = some (.int .i64 k) := by
            have h2 := HB.out
            rw [HBEL2.out.cell (p := ⟨w.heap.size, j, none⟩) (by show w.heap.size < B + 1; omega), ← HBEL.out.cell (p := ⟨w.heap.size, j, none⟩) (by show w.heap.size < B + 1; omega)]
            exact Hck.out
          have hlt0 : wo.heap.size < wr.heap.size := lt_of_block hblk2
          have hlt1 : w.heap.size < wr.heap.size := by have h2 := HB.out; omega
          have HBLK2 := Lib.hid hblk2; clear hblk2
          by_cases hne : (nm k q).toList.isEmpty = true
          · go_wp2_with fail
            refine wp_region_gw (by kernel_rfl) (by kernel_rfl) ?_
            repeat (go_big_quiet_step (exact gw_quiet (rupper_any s _ hs)))
            refine wpQuiet_nil ?_
            rintro _ ⟨p2, rfl⟩
            go_wp2_with fail
            go_roundw
            case rel => exact ⟨q + 1, by omega, by go_num, by rw [wl_miss p k q (.inl hne)]; exact owns_below' HOWN2.out (below_gw wr p2), by rw [(below_gw wr p2).block _ (lt_of_block HBLK2.out)]; exact HBLK2.out, below_gw' HBEL2.out hsz2 p2⟩
            case measure => simp [intOf]; omega
          · have hne' : (nm k q).toList.isEmpty = false := by simpa using hne
            clear hne
            rcases hpe : ((nm k q).toList == (upper s).toList) with _ | _
            · have Hpe : Hid (p (nm k q) = false) := Lib.hid (by rw [HP.out]; exact hpe)
              go_wp2_with fail
              refine wp_region_gw (by kernel_rfl) (by kernel_rfl) ?_
              repeat (go_big_quiet_step (exact gw_quiet (rupper_any s _ hs)))
              refine wpQuiet_nil ?_
              rintro _ ⟨p2, rfl⟩
              go_wp2_with fail
              go_roundw
              case rel => exact ⟨q + 1, by omega, by go_num, by rw [wl_miss p k q (.inr Hpe.out)]; exact owns_below' HOWN2.out (below_gw wr p2), by rw [(below_gw wr p2).block _ (lt_of_block HBLK2.out)]; exact HBLK2.out, below_gw' HBEL2.out hsz2 p2⟩
              case measure => simp [intOf]; omega
            · have Hpe : Hid (p (nm k q) = true) := Lib.hid (by rw [HP.out]; exact hpe)
              have hlen := wlist_len p j
              have hlen2 := wl_len p k q
              go_wp2_with fail
              refine wp_region_gw (by kernel_rfl) (by kernel_rfl) ?_
              repeat (go_big_quiet_step (exact gw_quiet (rupper_any s _ hs)))
              refine wpQuiet_nil ?_
              rintro _ ⟨p2, rfl⟩
              go_wp2_with (at_builtin; refine wpList_append_own _ rfl _ _ 27 rfl (B + 1) 23 i0 (.agg #[.int .i64 0, .int .i64 0, .int .i64 0]) 3 24 Tryd.underlying27 hi hz0 hz1 hz2 rfl (by decide) _ _ _ rfl (owns_below' HOWN2.out (by (repeat (first | exact Below.refl _ _ | refine Below.drew ?_ | (refine below_gw' ?_ (by first | omega | (simp [go_sem]; done) | (simp [go_sem]; omega)) _) | (refine Below.alloc ?_ (by first | omega | (simp [go_sem]; done) | (simp [go_sem]; omega)) _) | (refine Below.setCell ?_ (by first | omega | (simp [go_sem]; done) | (simp [go_sem]; omega)) _))))) _ 1 1 [.int .i64 k, .int .i64 q, .int .i64 0] rfl rfl ?c1 ?c2 ?c3 ?c4 ?c5 ?_)
              try case c1 =>
                intro q u hq
                rw [addr_add]
                match q, hq with
                | 0, hq => simp at hq; subst hq; simp [go_sem]
                | 1, hq => simp at hq; subst hq; simp [go_sem]
                | 2, hq => simp at hq; subst hq; simp [go_sem]
              case c2 => first | (intro u hu; simp at hu; rcases hu with rfl | rfl | rfl <;> rfl) | rfl
              case c3 => rw [List.length_append]; unfold maxLen; omega
              case c4 => rw [List.length_append]; omega
              case c5 => simp [go_sem]; omega
              intro v' w1 hown' hgrow _
              have hb' : Below (B + 1) _ w1 := (HBEL2.out.trans (Below.mono (show Below wr.heap.size wr _ by (repeat (first | exact Below.refl _ _ | refine Below.drew ?_ | (refine below_gw' ?_ (by first | omega | (simp [go_sem]; done) | (simp [go_sem]; omega)) _) | (refine Below.alloc ?_ (by first | omega | (simp [go_sem]; done) | (simp [go_sem]; omega)) _) | (refine Below.setCell ?_ (by first | omega | (simp [go_sem]; done) | (simp [go_sem]; omega)) _)))) hsz2)).grown hgrow (by simp [go_sem]; omega) (by
                intro q hq
                have := HOWN2.out.2
                rcases this with ⟨h, _⟩ | ⟨g, cap, cur, h, hg, _⟩
                · rw [h] at hq; cases hq
                · rw [h] at hq; cases hq; exact hg)
              have hbk : w1.heap[wo.heap.size]? = some (.cells (kcells k) 9 (0, 0)) := by
                obtain ⟨_, _, _, _, hkk⟩ := hgrow
                rw [hkk wo.heap.size (by simp [go_sem]; omega) (by
                  intro he
                  rcases HOWN2.out.2 with ⟨h, _⟩ | ⟨g, cap, cur, h, hg, hh, _⟩
                  · rw [h] at he; cases he
                  · have hgg : wo.heap.size = g := by rw [h] at he; simpa [Value.ownBlock] using he
                    rw [← hgg] at hh
                    cases hh.symm.trans HBLK2.out), (show Below wr.heap.size wr _ by (repeat (first | exact Below.refl _ _ | refine Below.drew ?_ | (refine below_gw' ?_ (by first | omega | (simp [go_sem]; done) | (simp [go_sem]; omega)) _) | (refine Below.alloc ?_ (by first | omega | (simp [go_sem]; done) | (simp [go_sem]; omega)) _) | (refine Below.setCell ?_ (by first | omega | (simp [go_sem]; done) | (simp [go_sem]; omega)) _)))).block _ hlt0]
                exact HBLK2.out
              have HOWN3 := Lib.hid hown'; clear hown'
              have HB' := Lib.hid hb'; clear hb' hgrow
              have HBK := Lib.hid hbk; clear hbk
              go_wp2_with fail
              go_roundw
              case rel => exact ⟨q + 1, by omega, by go_num, by rw [wl_hit p k q hne' Hpe.out, ← List.append_assoc, opCells_append, List.length_append, List.length_append]; exact HOWN3.out, HBK.out, HB'.out⟩
              case measure => simp [intOf]; omega
        · obtain rfl : q = n := by omega
          go_wp2_with fail
          go_roundw
          case rel => exact ⟨j + 1, by omega, by go_num, by rw [Hwk.out]; exact HOWN2.out, HBEL2.out⟩
          case measure => simp [intOf]; omega
    · obtain rfl : j = 5 := by omega
      go_wp2_with fail
      go_ret
      refine ⟨_, rfl, ?_, ?_⟩
      · have := Row.of_owns HOWN.out
        unfold namedO
        rw [List.length_map, ← opCells_opc]
        unfold namedL
        rw [← HP.out]
        exact this
      · have hB := HB.out
        exact Below.trans (b := w.alloc (.cells #[.int .i64 1, .int .i64 2, .int .i64 3, .int .i64 8, .int .i64 9] 3)) (by (repeat (first | exact Below.refl _ _ | refine Below.drew ?_ | (refine below_gw' ?_ (by first | omega | (simp [go_sem]; done) | (simp [go_sem]; omega)) _) | (refine Below.alloc ?_ (by first | omega | (simp [go_sem]; done) | (simp [go_sem]; omega)) _) | (refine Below.setCell ?_ (by first | omega | (simp [go_sem]; done) | (simp [go_sem]; omega)) _)))) (HBEL.out.mono (by omega))
end Go.Proofs.YtocgjpijjghiiaaDoor

