/- Joined texts: LexD. -/
import Derived.Test.YtnjpfhihbjihbaaGreatDoorS21
import Derived.Test.YtnjpfhihbjihbaaGreatDoorS23
/- The program's lexer: numbers. (Written by wip/gen_lexnum.py.) -/
namespace Go.Proofs.YtnjpfhihbjihbaaGreatDoor
open Go.RowKit Go.Sort

theorem sub_empty (s : ByteArray) (i j : Nat) (hj : j ≤ s.size) (hij : i ≤ j) : (sub s i j).toList.isEmpty = decide (j = i) := by
  rw [ByteArray.toList_eq]
  have hl : (sub s i j).data.toList.length = j - i := by unfold sub; simp [ByteArray.data_extract]; have : s.data.size = s.size := rfl; omega
  cases h : (sub s i j).data.toList with
  | nil => rw [h] at hl; simp at hl; simp; omega
  | cons a l => rw [h] at hl; simp at hl; simp; omega

set_option maxHeartbeats 8000000 in
set_option maxRecDepth 100000 in
theorem number_any (s : ByteArray) (i b : Nat) (t : Tok) (w : World) (hL : LexAt w b s i t) (hi : i ≤ s.size) (hs : s.size ≤ 1000000) :
    Calls Tryz.prog 118 #[.pointer (some ⟨b, 0, none⟩)] w (ReadRes (numberP s i) s i b t w) := by
  obtain ⟨Q, hQ⟩ : ∃ Q, numberP s i = Q := ⟨_, rfl⟩
  rw [hQ]
  unfold numberP isNumAt at hQ
  have hpk := fun w hL => peek_any s i b t w hL
  have hdig := fun w => isDigit_any (bat s i) w
  obtain ⟨d, hd⟩ : ∃ d, isDig (bat s i) = d := ⟨_, rfl⟩
  obtain ⟨c, hc⟩ : ∃ c : Int, ((bat s i).toNat : Int) = c := ⟨_, rfl⟩
  obtain ⟨m, hm⟩ : ∃ m, runEnd s (i + 1) = m := ⟨_, rfl⟩
  have hc8 : ∀ k : UInt8, (bat s i == k) = decide (c = (k.toNat : Int)) := fun k => by
    rw [← hc, Bool.eq_iff_iff, beq_iff_eq, decide_eq_true_iff, ← UInt8.toNat_inj]; omega
  have hdc : d = true → 48 ≤ c ∧ c ≤ 57 := fun h => by rw [← hd] at h; unfold isDig at h; simp at h; omega
  have hlt : (d = true ∨ c = 37 ∨ c = 36) → i < s.size := fun h => by
    rcases Nat.lt_or_ge i s.size with h1 | h1
    · exact h1
    · exfalso
      rw [bat_out s i (by omega)] at hc hd
      have : c = 0 := by rw [← hc]; rfl
      rcases h with h | h | h
      · rw [← hd] at h; cases h
      · omega
      · omega
  rw [hd, hm, hc8 37, hc8 36] at hQ
  change (if (d || decide (c = 37) || (decide (c = 36) && decide (i + 1 < m))) = true then _ else _) = Q at hQ
  simp only [hd, hc] at hdig
  simp only [hc] at hpk
  obtain ⟨c0, c1, c2, c3, c4, c5, hb, f0, f1, f2, f3, f4, f5⟩ := hL.facts
  have hi0 : (0 : Int) ≤ (i : Int) := by omega
  have hi1 : (i : Int) ≤ (s.size : Int) := by omega
  clear hc8 hd
  have HL := Lib.hid hL; clear hL
  have HPK := Lib.hid hpk; clear hpk
  have HDIG := Lib.hid hdig; clear hdig

  by_cases hF1 : d = false ∧ ¬ c = 37 ∧ ¬ c = 36
  · obtain ⟨rfl, h37, h36⟩ := hF1
    rw [if_neg (by simp [h37, h36])] at hQ
    subst hQ
    have b36 : (c != 36) = true := by simpa using h36
    have b37 : (c != 37) = true := by simpa using h37
    have a36 : (c == 36) = false := by simpa using h36
    have a37 : (c == 37) = false := by simpa using h37
    clear h36 h37 hdc hlt hc
    go_enter Tryz.func118, Tryz.ntmps118
    go_wp2_with fail
    refine wp_region_gw (by kernel_rfl) (by kernel_rfl) ?_
    repeat (go_big_quiet_step (exact gw_quiet (HPK.out _ (HL.out.gw _))))
    refine wpQuiet_nil ?_
    rintro _ ⟨p1, rfl⟩
    have hb1 : b < w.heap.size + p1.os.size := by omega
    go_wp2_with fail
    refine (HDIG.out _).mono ?_
    rintro e w1 ⟨rfl, rfl⟩
    go_wp2_with fail
    go_ret2
    exact ⟨by (with_reducible repeat (first | refine Kb.gw ?_ _ | refine Kb.setCell ?_ _ _ | refine Kb.alloc ?_ _ | refine Kb.drew ?_ | exact Kb.refl _ _ | exact HK.out)), rfl, by (with_reducible repeat (first | apply LexAt.gw | apply LexAt.at | apply LexAt.kind | apply LexAt.text | apply LexAt.n | apply LexAt.off | apply LexAt.alloc | apply LexAt.drew | exact HL.out))⟩
  have hil : i < s.size := hlt (by by_cases h1 : d = true; exact .inl h1; by_cases h2 : c = 37; exact .inr (.inl h2); by_cases h3 : c = 36; exact .inr (.inr h3); exact absurd ⟨by simpa using h1, h2, h3⟩ hF1)
  have hm1 := runEnd_ge s (i + 1)
  have hm2 := runEnd_le s (i + 1) hil
  rw [hm] at hm1 hm2
  have hrun := fun w hL => run_any s (i + 1) b t w hL hil hs
  have hse := sub_empty s (i + 1) m hm2 hm1
  simp only [hm] at hrun
  obtain ⟨X, hX⟩ : ∃ X, sub s (i + 1) m = X := ⟨_, rfl⟩
  rw [hX] at hse
  simp only [hX] at hrun
  have hm1' : (i : Int) + 1 ≤ (m : Int) := by omega
  have hm2' : (m : Int) ≤ (s.size : Int) := by omega
  have him : (i : Int) ≤ (m : Int) := by omega
  have hpar := fun w => numParse_any (sub s i m) w (by unfold sub; rw [ByteArray.size_extract]; omega)
  have e1 : numR (sub s i m) = dR (numP (sub s i m)) := rfl
  clear hlt hc hX hm
  have HRUN := Lib.hid hrun; clear hrun
  by_cases hF2 : d = false ∧ c = 36 ∧ m = i + 1
  · obtain ⟨rfl, rfl, hmi⟩ := hF2
    rw [if_neg (by simp; omega)] at hQ
    subst hQ
    rw [decide_eq_true hmi] at hse
    subst hmi
    clear hdc hF1 e1 hpar
    go_enter Tryz.func118, Tryz.ntmps118
    go_wp2_with fail
    refine wp_region_gw (by kernel_rfl) (by kernel_rfl) ?_
    repeat (go_big_quiet_step (exact gw_quiet (HPK.out _ (HL.out.gw _))))
    refine wpQuiet_nil ?_
    rintro _ ⟨p1, rfl⟩
    have hb1 : b < w.heap.size + p1.os.size := by omega
    go_wp2_with fail
    refine (HDIG.out _).mono ?_
    rintro e w1 ⟨rfl, rfl⟩
    go_wp2_with fail
    refine (HRUN.out _ (LexAt.cast (by (with_reducible repeat (first | apply LexAt.gw | apply LexAt.at | apply LexAt.kind | apply LexAt.text | apply LexAt.n | apply LexAt.off | apply LexAt.alloc | apply LexAt.drew | exact HL.out))) (by go_num) rfl)).mono ?_
    rintro e w1 ⟨rfl, hL1, hK1⟩
    have HK := Lib.hid (Kb.trans (by (with_reducible repeat (first | refine Kb.gw ?_ _ | refine Kb.setCell ?_ _ _ | refine Kb.alloc ?_ _ | refine Kb.drew ?_ | exact Kb.refl _ _ | exact HK.out)) : Kb b w _) hK1); clear hK1
    obtain ⟨d0, d1, d2, d3, d4, d5, hbb, g0, g1, g2, g3, g4, g5⟩ := hL1.facts
    have HL1 := Lib.hid hL1; clear hL1
    go_wp2_with fail
    go_ret2
    refine ⟨by (with_reducible repeat (first | refine Kb.gw ?_ _ | refine Kb.setCell ?_ _ _ | refine Kb.alloc ?_ _ | refine Kb.drew ?_ | exact Kb.refl _ _ | exact HK.out)), rfl, ?_⟩
    have HL := HL1
    exact LexAt.cast (by (with_reducible repeat (first | apply LexAt.gw | apply LexAt.at | apply LexAt.kind | apply LexAt.text | apply LexAt.n | apply LexAt.off | apply LexAt.alloc | apply LexAt.drew | exact HL.out))) rfl rfl
  have hN : (d || decide (c = 37) || (decide (c = 36) && decide (i + 1 < m))) = true := by
    by_cases h1 : d = true
    · rw [h1]; rfl
    · by_cases h2 : c = 37
      · rw [decide_eq_true h2]; simp
      · by_cases h3 : c = 36
        · have : ¬ m = i + 1 := fun h => hF2 ⟨by simpa using h1, h3, h⟩
          rw [decide_eq_true h3, decide_eq_true (show i + 1 < m by omega)]; simp
        · exact absurd ⟨by simpa using h1, h2, h3⟩ hF1
  rw [if_pos hN] at hQ
  clear hN
  have hRr : ∀ o : Option Nat, (o = none ∧ dR o = (0, false)) ∨ ∃ n, o = some n ∧ dR o = ((n : Int), true) := fun o => by cases o with
      | none => exact .inl ⟨rfl, rfl⟩
      | some n => exact .inr ⟨n, rfl, rfl⟩
  have hcase : (d = true ∧ (c != 36) = true ∧ (c == 36) = false) ∨ (d = false ∧ c = 37) ∨ (d = false ∧ c = 36 ∧ decide (m = i + 1) = false) := by
    by_cases h1 : d = true
    · have := hdc h1; left; refine ⟨h1, ?_, ?_⟩ <;> simp <;> omega
    · by_cases h2 : c = 37
      · exact .inr (.inl ⟨by simpa using h1, h2⟩)
      · by_cases h3 : c = 36
        · exact .inr (.inr ⟨by simpa using h1, h3, decide_eq_false (fun h => hF2 ⟨by simpa using h1, h3, h⟩)⟩)
        · exact absurd ⟨by simpa using h1, h2, h3⟩ hF1
  clear hF1 hF2 hdc
  obtain ⟨em, hem⟩ : ∃ em, decide (m = i + 1) = em := ⟨_, rfl⟩
  rw [hem] at hse hcase
  clear hem
  rcases hRr (numP (sub s i m)) with ⟨h1, h2⟩ | ⟨n, h1, h2⟩
  · rw [h1] at hQ
    subst hQ
    simp only [e1, h2] at hpar
    clear e1 h1 h2 hRr
    have HPAR := Lib.hid hpar; clear hpar
    rcases hcase with ⟨rfl, n36, a36⟩ | ⟨rfl, rfl⟩ | ⟨rfl, rfl, rfl⟩
    · rcases em with _ | _
      · go_enter Tryz.func118, Tryz.ntmps118
        go_wp2_with fail
        refine wp_region_gw (by kernel_rfl) (by kernel_rfl) ?_
        repeat (go_big_quiet_step (exact gw_quiet (HPK.out _ (HL.out.gw _))))
        refine wpQuiet_nil ?_
        rintro _ ⟨p1, rfl⟩
        have hb1 : b < w.heap.size + p1.os.size := by omega
        go_wp2_with fail
        refine (HDIG.out _).mono ?_
        rintro e w1 ⟨rfl, rfl⟩
        go_wp2_with fail
        refine (HRUN.out _ (LexAt.cast (by (with_reducible repeat (first | apply LexAt.gw | apply LexAt.at | apply LexAt.kind | apply LexAt.text | apply LexAt.n | apply LexAt.off | apply LexAt.alloc | apply LexAt.drew | exact HL.out))) (by go_num) rfl)).mono ?_
        rintro e w1 ⟨rfl, hL1, hK1⟩
        have HK := Lib.hid (Kb.trans (by (with_reducible repeat (first | refine Kb.gw ?_ _ | refine Kb.setCell ?_ _ _ | refine Kb.alloc ?_ _ | refine Kb.drew ?_ | exact Kb.refl _ _ | exact HK.out)) : Kb b w _) hK1); clear hK1
        obtain ⟨d0, d1, d2, d3, d4, d5, hbb, g0, g1, g2, g3, g4, g5⟩ := hL1.facts
        have HL1 := Lib.hid hL1; clear hL1
        go_wp2_with fail
        refine wp_region_gw (by kernel_rfl) (by kernel_rfl) ?_
        repeat (go_big_quiet_step (exact gw_quiet (HPAR.out _)))
        refine wpQuiet_nil ?_
        rintro _ ⟨p2, rfl⟩
        have hb2 : b < w1.heap.size + p2.os.size := by omega
        go_wp2_with fail
        go_ret2
        have HL := HL1
        exact ⟨by (with_reducible repeat (first | refine Kb.gw ?_ _ | refine Kb.setCell ?_ _ _ | refine Kb.alloc ?_ _ | refine Kb.drew ?_ | exact Kb.refl _ _ | exact HK.out)), rfl, m, _, hm2, by (with_reducible repeat (first | apply LexAt.gw | apply LexAt.at | apply LexAt.kind | apply LexAt.text | apply LexAt.n | apply LexAt.off | apply LexAt.alloc | apply LexAt.drew | exact HL.out))⟩
      · go_enter Tryz.func118, Tryz.ntmps118
        go_wp2_with fail
        refine wp_region_gw (by kernel_rfl) (by kernel_rfl) ?_
        repeat (go_big_quiet_step (exact gw_quiet (HPK.out _ (HL.out.gw _))))
        refine wpQuiet_nil ?_
        rintro _ ⟨p1, rfl⟩
        have hb1 : b < w.heap.size + p1.os.size := by omega
        go_wp2_with fail
        refine (HDIG.out _).mono ?_
        rintro e w1 ⟨rfl, rfl⟩
        go_wp2_with fail
        refine (HRUN.out _ (LexAt.cast (by (with_reducible repeat (first | apply LexAt.gw | apply LexAt.at | apply LexAt.kind | apply LexAt.text | apply LexAt.n | apply LexAt.off | apply LexAt.alloc | apply LexAt.drew | exact HL.out))) (by go_num) rfl)).mono ?_
        rintro e w1 ⟨rfl, hL1, hK1⟩
        have HK := Lib.hid (Kb.trans (by (with_reducible repeat (first | refine Kb.gw ?_ _ | refine Kb.setCell ?_ _ _ | refine Kb.alloc ?_ _ | refine Kb.drew ?_ | exact Kb.refl _ _ | exact HK.out)) : Kb b w _) hK1); clear hK1
        obtain ⟨d0, d1, d2, d3, d4, d5, hbb, g0, g1, g2, g3, g4, g5⟩ := hL1.facts
        have HL1 := Lib.hid hL1; clear hL1
        go_wp2_with fail
        refine wp_region_gw (by kernel_rfl) (by kernel_rfl) ?_
        repeat (go_big_quiet_step (exact gw_quiet (HPAR.out _)))
        refine wpQuiet_nil ?_
        rintro _ ⟨p2, rfl⟩
        have hb2 : b < w1.heap.size + p2.os.size := by omega
        go_wp2_with fail
        go_ret2
        have HL := HL1
        exact ⟨by (with_reducible repeat (first | refine Kb.gw ?_ _ | refine Kb.setCell ?_ _ _ | refine Kb.alloc ?_ _ | refine Kb.drew ?_ | exact Kb.refl _ _ | exact HK.out)), rfl, m, _, hm2, by (with_reducible repeat (first | apply LexAt.gw | apply LexAt.at | apply LexAt.kind | apply LexAt.text | apply LexAt.n | apply LexAt.off | apply LexAt.alloc | apply LexAt.drew | exact HL.out))⟩
    · rcases em with _ | _
      · go_enter Tryz.func118, Tryz.ntmps118
        go_wp2_with fail
        refine wp_region_gw (by kernel_rfl) (by kernel_rfl) ?_
        repeat (go_big_quiet_step (exact gw_quiet (HPK.out _ (HL.out.gw _))))
        refine wpQuiet_nil ?_
        rintro _ ⟨p1, rfl⟩
        have hb1 : b < w.heap.size + p1.os.size := by omega
        go_wp2_with fail
        refine (HDIG.out _).mono ?_
        rintro e w1 ⟨rfl, rfl⟩
        go_wp2_with fail
        refine (HRUN.out _ (LexAt.cast (by (with_reducible repeat (first | apply LexAt.gw | apply LexAt.at | apply LexAt.kind | apply LexAt.text | apply LexAt.n | apply LexAt.off | apply LexAt.alloc | apply LexAt.drew | exact HL.out))) (by go_num) rfl)).mono ?_
        rintro e w1 ⟨rfl, hL1, hK1⟩
        have HK := Lib.hid (Kb.trans (by (with_reducible repeat (first | refine Kb.gw ?_ _ | refine Kb.setCell ?_ _ _ | refine Kb.alloc ?_ _ | refine Kb.drew ?_ | exact Kb.refl _ _ | exact HK.out)) : Kb b w _) hK1); clear hK1
        obtain ⟨d0, d1, d2, d3, d4, d5, hbb, g0, g1, g2, g3, g4, g5⟩ := hL1.facts
        have HL1 := Lib.hid hL1; clear hL1
        go_wp2_with fail
        refine wp_region_gw (by kernel_rfl) (by kernel_rfl) ?_
        repeat (go_big_quiet_step (exact gw_quiet (HPAR.out _)))
        refine wpQuiet_nil ?_
        rintro _ ⟨p2, rfl⟩
        have hb2 : b < w1.heap.size + p2.os.size := by omega
        go_wp2_with fail
        go_ret2
        have HL := HL1
        exact ⟨by (with_reducible repeat (first | refine Kb.gw ?_ _ | refine Kb.setCell ?_ _ _ | refine Kb.alloc ?_ _ | refine Kb.drew ?_ | exact Kb.refl _ _ | exact HK.out)), rfl, m, _, hm2, by (with_reducible repeat (first | apply LexAt.gw | apply LexAt.at | apply LexAt.kind | apply LexAt.text | apply LexAt.n | apply LexAt.off | apply LexAt.alloc | apply LexAt.drew | exact HL.out))⟩
      · go_enter Tryz.func118, Tryz.ntmps118
        go_wp2_with fail
        refine wp_region_gw (by kernel_rfl) (by kernel_rfl) ?_
        repeat (go_big_quiet_step (exact gw_quiet (HPK.out _ (HL.out.gw _))))
        refine wpQuiet_nil ?_
        rintro _ ⟨p1, rfl⟩
        have hb1 : b < w.heap.size + p1.os.size := by omega
        go_wp2_with fail
        refine (HDIG.out _).mono ?_
        rintro e w1 ⟨rfl, rfl⟩
        go_wp2_with fail
        refine (HRUN.out _ (LexAt.cast (by (with_reducible repeat (first | apply LexAt.gw | apply LexAt.at | apply LexAt.kind | apply LexAt.text | apply LexAt.n | apply LexAt.off | apply LexAt.alloc | apply LexAt.drew | exact HL.out))) (by go_num) rfl)).mono ?_
        rintro e w1 ⟨rfl, hL1, hK1⟩
        have HK := Lib.hid (Kb.trans (by (with_reducible repeat (first | refine Kb.gw ?_ _ | refine Kb.setCell ?_ _ _ | refine Kb.alloc ?_ _ | refine Kb.drew ?_ | exact Kb.refl _ _ | exact HK.out)) : Kb b w _) hK1); clear hK1
        obtain ⟨d0, d1, d2, d3, d4, d5, hbb, g0, g1, g2, g3, g4, g5⟩ := hL1.facts
        have HL1 := Lib.hid hL1; clear hL1
        go_wp2_with fail
        refine wp_region_gw (by kernel_rfl) (by kernel_rfl) ?_
        repeat (go_big_quiet_step (exact gw_quiet (HPAR.out _)))
        refine wpQuiet_nil ?_
        rintro _ ⟨p2, rfl⟩
        have hb2 : b < w1.heap.size + p2.os.size := by omega
        go_wp2_with fail
        go_ret2
        have HL := HL1
        exact ⟨by (with_reducible repeat (first | refine Kb.gw ?_ _ | refine Kb.setCell ?_ _ _ | refine Kb.alloc ?_ _ | refine Kb.drew ?_ | exact Kb.refl _ _ | exact HK.out)), rfl, m, _, hm2, by (with_reducible repeat (first | apply LexAt.gw | apply LexAt.at | apply LexAt.kind | apply LexAt.text | apply LexAt.n | apply LexAt.off | apply LexAt.alloc | apply LexAt.drew | exact HL.out))⟩
    · go_enter Tryz.func118, Tryz.ntmps118
      go_wp2_with fail
      refine wp_region_gw (by kernel_rfl) (by kernel_rfl) ?_
      repeat (go_big_quiet_step (exact gw_quiet (HPK.out _ (HL.out.gw _))))
      refine wpQuiet_nil ?_
      rintro _ ⟨p1, rfl⟩
      have hb1 : b < w.heap.size + p1.os.size := by omega
      go_wp2_with fail
      refine (HDIG.out _).mono ?_
      rintro e w1 ⟨rfl, rfl⟩
      go_wp2_with fail
      refine (HRUN.out _ (LexAt.cast (by (with_reducible repeat (first | apply LexAt.gw | apply LexAt.at | apply LexAt.kind | apply LexAt.text | apply LexAt.n | apply LexAt.off | apply LexAt.alloc | apply LexAt.drew | exact HL.out))) (by go_num) rfl)).mono ?_
      rintro e w1 ⟨rfl, hL1, hK1⟩
      have HK := Lib.hid (Kb.trans (by (with_reducible repeat (first | refine Kb.gw ?_ _ | refine Kb.setCell ?_ _ _ | refine Kb.alloc ?_ _ | refine Kb.drew ?_ | exact Kb.refl _ _ | exact HK.out)) : Kb b w _) hK1); clear hK1
      obtain ⟨d0, d1, d2, d3, d4, d5, hbb, g0, g1, g2, g3, g4, g5⟩ := hL1.facts
      have HL1 := Lib.hid hL1; clear hL1
      go_wp2_with fail
      refine wp_region_gw (by kernel_rfl) (by kernel_rfl) ?_
      repeat (go_big_quiet_step (exact gw_quiet (HPAR.out _)))
      refine wpQuiet_nil ?_
      rintro _ ⟨p2, rfl⟩
      have hb2 : b < w1.heap.size + p2.os.size := by omega
      go_wp2_with fail
      go_ret2
      have HL := HL1
      exact ⟨by (with_reducible repeat (first | refine Kb.gw ?_ _ | refine Kb.setCell ?_ _ _ | refine Kb.alloc ?_ _ | refine Kb.drew ?_ | exact Kb.refl _ _ | exact HK.out)), rfl, m, _, hm2, by (with_reducible repeat (first | apply LexAt.gw | apply LexAt.at | apply LexAt.kind | apply LexAt.text | apply LexAt.n | apply LexAt.off | apply LexAt.alloc | apply LexAt.drew | exact HL.out))⟩
  · rw [h1] at hQ
    subst hQ
    simp only [e1, h2] at hpar
    clear e1 h1 h2 hRr
    have HPAR := Lib.hid hpar; clear hpar
    rcases hcase with ⟨rfl, n36, a36⟩ | ⟨rfl, rfl⟩ | ⟨rfl, rfl, rfl⟩
    · rcases em with _ | _
      · go_enter Tryz.func118, Tryz.ntmps118
        go_wp2_with fail
        refine wp_region_gw (by kernel_rfl) (by kernel_rfl) ?_
        repeat (go_big_quiet_step (exact gw_quiet (HPK.out _ (HL.out.gw _))))
        refine wpQuiet_nil ?_
        rintro _ ⟨p1, rfl⟩
        have hb1 : b < w.heap.size + p1.os.size := by omega
        go_wp2_with fail
        refine (HDIG.out _).mono ?_
        rintro e w1 ⟨rfl, rfl⟩
        go_wp2_with fail
        refine (HRUN.out _ (LexAt.cast (by (with_reducible repeat (first | apply LexAt.gw | apply LexAt.at | apply LexAt.kind | apply LexAt.text | apply LexAt.n | apply LexAt.off | apply LexAt.alloc | apply LexAt.drew | exact HL.out))) (by go_num) rfl)).mono ?_
        rintro e w1 ⟨rfl, hL1, hK1⟩
        have HK := Lib.hid (Kb.trans (by (with_reducible repeat (first | refine Kb.gw ?_ _ | refine Kb.setCell ?_ _ _ | refine Kb.alloc ?_ _ | refine Kb.drew ?_ | exact Kb.refl _ _ | exact HK.out)) : Kb b w _) hK1); clear hK1
        obtain ⟨d0, d1, d2, d3, d4, d5, hbb, g0, g1, g2, g3, g4, g5⟩ := hL1.facts
        have HL1 := Lib.hid hL1; clear hL1
        go_wp2_with fail
        refine wp_region_gw (by kernel_rfl) (by kernel_rfl) ?_
        repeat (go_big_quiet_step (exact gw_quiet (HPAR.out _)))
        refine wpQuiet_nil ?_
        rintro _ ⟨p2, rfl⟩
        have hb2 : b < w1.heap.size + p2.os.size := by omega
        go_wp2_with fail
        go_ret2
        have HL := HL1
        refine ⟨by (with_reducible repeat (first | refine Kb.gw ?_ _ | refine Kb.setCell ?_ _ _ | refine Kb.alloc ?_ _ | refine Kb.drew ?_ | exact Kb.refl _ _ | exact HK.out)), rfl, ?_⟩
        refine LexAt.cast (by (with_reducible repeat (first | apply LexAt.gw | apply LexAt.at | apply LexAt.kind | apply LexAt.text | apply LexAt.n | apply LexAt.off | apply LexAt.alloc | apply LexAt.drew | exact HL.out))) ?_ ?_
        · rfl
        · rfl
      · go_enter Tryz.func118, Tryz.ntmps118
        go_wp2_with fail
        refine wp_region_gw (by kernel_rfl) (by kernel_rfl) ?_
        repeat (go_big_quiet_step (exact gw_quiet (HPK.out _ (HL.out.gw _))))
        refine wpQuiet_nil ?_
        rintro _ ⟨p1, rfl⟩
        have hb1 : b < w.heap.size + p1.os.size := by omega
        go_wp2_with fail
        refine (HDIG.out _).mono ?_
        rintro e w1 ⟨rfl, rfl⟩
        go_wp2_with fail
        refine (HRUN.out _ (LexAt.cast (by (with_reducible repeat (first | apply LexAt.gw | apply LexAt.at | apply LexAt.kind | apply LexAt.text | apply LexAt.n | apply LexAt.off | apply LexAt.alloc | apply LexAt.drew | exact HL.out))) (by go_num) rfl)).mono ?_
        rintro e w1 ⟨rfl, hL1, hK1⟩
        have HK := Lib.hid (Kb.trans (by (with_reducible repeat (first | refine Kb.gw ?_ _ | refine Kb.setCell ?_ _ _ | refine Kb.alloc ?_ _ | refine Kb.drew ?_ | exact Kb.refl _ _ | exact HK.out)) : Kb b w _) hK1); clear hK1
        obtain ⟨d0, d1, d2, d3, d4, d5, hbb, g0, g1, g2, g3, g4, g5⟩ := hL1.facts
        have HL1 := Lib.hid hL1; clear hL1
        go_wp2_with fail
        refine wp_region_gw (by kernel_rfl) (by kernel_rfl) ?_
        repeat (go_big_quiet_step (exact gw_quiet (HPAR.out _)))
        refine wpQuiet_nil ?_
        rintro _ ⟨p2, rfl⟩
        have hb2 : b < w1.heap.size + p2.os.size := by omega
        go_wp2_with fail
        go_ret2
        have HL := HL1
        refine ⟨by (with_reducible repeat (first | refine Kb.gw ?_ _ | refine Kb.setCell ?_ _ _ | refine Kb.alloc ?_ _ | refine Kb.drew ?_ | exact Kb.refl _ _ | exact HK.out)), rfl, ?_⟩
        refine LexAt.cast (by (with_reducible repeat (first | apply LexAt.gw | apply LexAt.at | apply LexAt.kind | apply LexAt.text | apply LexAt.n | apply LexAt.off | apply LexAt.alloc | apply LexAt.drew | exact HL.out))) ?_ ?_
        · rfl
        · rfl
    · rcases em with _ | _
      · go_enter Tryz.func118, Tryz.ntmps118
        go_wp2_with fail
        refine wp_region_gw (by kernel_rfl) (by kernel_rfl) ?_
        repeat (go_big_quiet_step (exact gw_quiet (HPK.out _ (HL.out.gw _))))
        refine wpQuiet_nil ?_
        rintro _ ⟨p1, rfl⟩
        have hb1 : b < w.heap.size + p1.os.size := by omega
        go_wp2_with fail
        refine (HDIG.out _).mono ?_
        rintro e w1 ⟨rfl, rfl⟩
        go_wp2_with fail
        refine (HRUN.out _ (LexAt.cast (by (with_reducible repeat (first | apply LexAt.gw | apply LexAt.at | apply LexAt.kind | apply LexAt.text | apply LexAt.n | apply LexAt.off | apply LexAt.alloc | apply LexAt.drew | exact HL.out))) (by go_num) rfl)).mono ?_
        rintro e w1 ⟨rfl, hL1, hK1⟩
        have HK := Lib.hid (Kb.trans (by (with_reducible repeat (first | refine Kb.gw ?_ _ | refine Kb.setCell ?_ _ _ | refine Kb.alloc ?_ _ | refine Kb.drew ?_ | exact Kb.refl _ _ | exact HK.out)) : Kb b w _) hK1); clear hK1
        obtain ⟨d0, d1, d2, d3, d4, d5, hbb, g0, g1, g2, g3, g4, g5⟩ := hL1.facts
        have HL1 := Lib.hid hL1; clear hL1
        go_wp2_with fail
        refine wp_region_gw (by kernel_rfl) (by kernel_rfl) ?_
        repeat (go_big_quiet_step (exact gw_quiet (HPAR.out _)))
        refine wpQuiet_nil ?_
        rintro _ ⟨p2, rfl⟩
        have hb2 : b < w1.heap.size + p2.os.size := by omega
        go_wp2_with fail
        go_ret2
        have HL := HL1
        refine ⟨by (with_reducible repeat (first | refine Kb.gw ?_ _ | refine Kb.setCell ?_ _ _ | refine Kb.alloc ?_ _ | refine Kb.drew ?_ | exact Kb.refl _ _ | exact HK.out)), rfl, ?_⟩
        refine LexAt.cast (by (with_reducible repeat (first | apply LexAt.gw | apply LexAt.at | apply LexAt.kind | apply LexAt.text | apply LexAt.n | apply LexAt.off | apply LexAt.alloc | apply LexAt.drew | exact HL.out))) ?_ ?_
        · rfl
        · rfl
      · go_enter Tryz.func118, Tryz.ntmps118
        go_wp2_with fail
        refine wp_region_gw (by kernel_rfl) (by kernel_rfl) ?_
        repeat (go_big_quiet_step (exact gw_quiet (HPK.out _ (HL.out.gw _))))
        refine wpQuiet_nil ?_
        rintro _ ⟨p1, rfl⟩
        have hb1 : b < w.heap.size + p1.os.size := by omega
        go_wp2_with fail
        refine (HDIG.out _).mono ?_
        rintro e w1 ⟨rfl, rfl⟩
        go_wp2_with fail
        refine (HRUN.out _ (LexAt.cast (by (with_reducible repeat (first | apply LexAt.gw | apply LexAt.at | apply LexAt.kind | apply LexAt.text | apply LexAt.n | apply LexAt.off | apply LexAt.alloc | apply LexAt.drew | exact HL.out))) (by go_num) rfl)).mono ?_
        rintro e w1 ⟨rfl, hL1, hK1⟩
        have HK := Lib.hid (Kb.trans (by (with_reducible repeat (first | refine Kb.gw ?_ _ | refine Kb.setCell ?_ _ _ | refine Kb.alloc ?_ _ | refine Kb.drew ?_ | exact Kb.refl _ _ | exact HK.out)) : Kb b w _) hK1); clear hK1
        obtain ⟨d0, d1, d2, d3, d4, d5, hbb, g0, g1, g2, g3, g4, g5⟩ := hL1.facts
        have HL1 := Lib.hid hL1; clear hL1
        go_wp2_with fail
        refine wp_region_gw (by kernel_rfl) (by kernel_rfl) ?_
        repeat (go_big_quiet_step (exact gw_quiet (HPAR.out _)))
        refine wpQuiet_nil ?_
        rintro _ ⟨p2, rfl⟩
        have hb2 : b < w1.heap.size + p2.os.size := by omega
        go_wp2_with fail
        go_ret2
        have HL := HL1
        refine ⟨by (with_reducible repeat (first | refine Kb.gw ?_ _ | refine Kb.setCell ?_ _ _ | refine Kb.alloc ?_ _ | refine Kb.drew ?_ | exact Kb.refl _ _ | exact HK.out)), rfl, ?_⟩
        refine LexAt.cast (by (with_reducible repeat (first | apply LexAt.gw | apply LexAt.at | apply LexAt.kind | apply LexAt.text | apply LexAt.n | apply LexAt.off | apply LexAt.alloc | apply LexAt.drew | exact HL.out))) ?_ ?_
        · rfl
        · rfl
    · go_enter Tryz.func118, Tryz.ntmps118
      go_wp2_with fail
      refine wp_region_gw (by kernel_rfl) (by kernel_rfl) ?_
      repeat (go_big_quiet_step (exact gw_quiet (HPK.out _ (HL.out.gw _))))
      refine wpQuiet_nil ?_
      rintro _ ⟨p1, rfl⟩
      have hb1 : b < w.heap.size + p1.os.size := by omega
      go_wp2_with fail
      refine (HDIG.out _).mono ?_
      rintro e w1 ⟨rfl, rfl⟩
      go_wp2_with fail
      refine (HRUN.out _ (LexAt.cast (by (with_reducible repeat (first | apply LexAt.gw | apply LexAt.at | apply LexAt.kind | apply LexAt.text | apply LexAt.n | apply LexAt.off | apply LexAt.alloc | apply LexAt.drew | exact HL.out))) (by go_num) rfl)).mono ?_
      rintro e w1 ⟨rfl, hL1, hK1⟩
      have HK := Lib.hid (Kb.trans (by (with_reducible repeat (first | refine Kb.gw ?_ _ | refine Kb.setCell ?_ _ _ | refine Kb.alloc ?_ _ | refine Kb.drew ?_ | exact Kb.refl _ _ | exact HK.out)) : Kb b w _) hK1); clear hK1
      obtain ⟨d0, d1, d2, d3, d4, d5, hbb, g0, g1, g2, g3, g4, g5⟩ := hL1.facts
      have HL1 := Lib.hid hL1; clear hL1
      go_wp2_with fail
      refine wp_region_gw (by kernel_rfl) (by kernel_rfl) ?_
      repeat (go_big_quiet_step (exact gw_quiet (HPAR.out _)))
      refine wpQuiet_nil ?_
      rintro _ ⟨p2, rfl⟩
      have hb2 : b < w1.heap.size + p2.os.size := by omega
      go_wp2_with fail
      go_ret2
      have HL := HL1
      refine ⟨by (with_reducible repeat (first | refine Kb.gw ?_ _ | refine Kb.setCell ?_ _ _ | refine Kb.alloc ?_ _ | refine Kb.drew ?_ | exact Kb.refl _ _ | exact HK.out)), rfl, ?_⟩
      refine LexAt.cast (by (with_reducible repeat (first | apply LexAt.gw | apply LexAt.at | apply LexAt.kind | apply LexAt.text | apply LexAt.n | apply LexAt.off | apply LexAt.alloc | apply LexAt.drew | exact HL.out))) ?_ ?_
      · rfl
      · rfl
end Go.Proofs.YtnjpfhihbjihbaaGreatDoor
