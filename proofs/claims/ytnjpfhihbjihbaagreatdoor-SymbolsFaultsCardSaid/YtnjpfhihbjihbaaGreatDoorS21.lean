/- Joined texts: LexC, NumD. -/
import Derived.Test.YtnjpfhihbjihbaaGreatDoorS04
import Derived.Test.YtnjpfhihbjihbaaGreatDoorS08
import Derived.Test.YtnjpfhihbjihbaaGreatDoorS20
/- The program's lexer: words and signs. -/
namespace Go.Proofs.YtnjpfhihbjihbaaGreatDoor
open Go.RowKit Go.Sort

/-- What a reader of a token leaves. -/
def ReadRes (x : Option (Except Int (Tok × Nat))) (s : ByteArray) (i b : Nat) (t : Tok) (w : World) (e : Ending) (w' : World) : Prop :=
  Kb b w w' ∧ match x with
  | none => e = .returned (.tuple #[.bool false, .int .i64 0]) ∧ LexAt w' b s i t
  | some (.error c) => e = .returned (.tuple #[.bool true, .int .i64 c]) ∧ ∃ (j : Nat) (u : Tok), j ≤ s.size ∧ LexAt w' b s j u
  | some (.ok y) => e = .returned (.tuple #[.bool true, .int .i64 0]) ∧ LexAt w' b s y.2 { y.1 with off := 0 }

theorem LexAt.cast {w : World} {b : Nat} {s : ByteArray} {i i' : Int} {t t' : Tok} (h : LexAt w b s i' t') (hi : i' = i) (ht : t' = t) : LexAt w b s i t := by subst hi ht; exact h

set_option maxHeartbeats 2000000 in
set_option maxRecDepth 100000 in
theorem word_any (s : ByteArray) (i b : Nat) (t : Tok) (w : World) (hL : LexAt w b s i t) (hi : i ≤ s.size) (hs : s.size ≤ 1000000) :
    Calls Tryz.prog 117 #[.pointer (some ⟨b, 0, none⟩)] w (ReadRes (wordP s i) s i b t w) := by
  have hpk := peek_any s i b t w hL
  have hlet := fun w => isLetter_any (bat s i) w
  rcases h : isLet (bat s i) with _ | _
  · rw [wordP_no s i h]
    rw [h] at hlet
    have HLET := Lib.hid hlet; clear hlet h
    have HPK := Lib.hid hpk; clear hpk
    have HL := Lib.hid hL; clear hL
    go_enter Tryz.func117, Tryz.ntmps117
    go_wp2_with fail
    refine HPK.out.mono ?_
    rintro e w1 ⟨rfl, hb⟩
    obtain ⟨p1, rfl⟩ := gw_of_below hb
    clear hb
    go_wp2_with fail
    refine (HLET.out _).mono ?_
    rintro e w1 ⟨rfl, rfl⟩
    go_wp2_with fail
    go_ret2
    exact ⟨(Kb.refl _ _).gw _, rfl, HL.out.gw _⟩
  · rw [wordP_yes s i h]
    have hwe := wordEnd_eq s i h
    have hr1 := runEnd_ge s i
    have hr2 := runEnd_le s i hi
    obtain ⟨W, hW⟩ : ∃ W, wordEnd s i = W := ⟨_, rfl⟩
    obtain ⟨r, hr⟩ : ∃ r, runEnd s i = r := ⟨_, rfl⟩
    have hrun := fun w hL => run_any s i b t w hL hi hs
    rw [hW, hr] at hwe
    rw [hr] at hr1 hr2
    simp only [hr] at hrun
    rw [hW]
    have hup := fun w => upper_any (sub s i r) w (by unfold sub maxLen; rw [ByteArray.size_extract]; omega)
    have hss : (sub s i r).size ≤ 1000000 := by unfold sub; rw [ByteArray.size_extract]; omega
    rw [h] at hlet
    have HLET := Lib.hid hlet; clear hlet h
    have HPK := Lib.hid hpk; clear hpk
    have HL := Lib.hid hL; clear hL
    have HRUN := Lib.hid hrun; clear hrun hW hr
    have HUP := Lib.hid hup; clear hup
    have HWE := Lib.hid hwe; clear hwe
    obtain ⟨U, hU⟩ : ∃ U, upper (sub s i r) = U := ⟨_, rfl⟩
    rw [hU] at HUP HWE
    clear hU
    go_enter Tryz.func117, Tryz.ntmps117
    go_wp2_with fail
    refine HPK.out.mono ?_
    rintro e w1 ⟨rfl, hb⟩
    obtain ⟨p1, rfl⟩ := gw_of_below hb
    clear hb
    go_wp2_with fail
    refine (HLET.out _).mono ?_
    rintro e w1 ⟨rfl, rfl⟩
    go_wp2_with fail
    refine (HRUN.out _ (HL.out.gw _)).mono ?_
    rintro e w1 ⟨rfl, hL1, hK1⟩
    have hpk1 := fun w hL => peek_any s r b t w hL
    obtain ⟨c0, c1, c2, c3, c4, c5, hb, f0, f1, f2, f3, f4, f5⟩ := hL1.facts
    have HPK1 := Lib.hid hpk1; clear hpk1
    have HL1 := Lib.hid hL1; clear hL1
    have HK1 := Lib.hid (((Kb.refl b w).gw p1).trans hK1); clear hK1
    go_wp2_with fail
    refine (HUP.out _).mono ?_
    rintro e w2 ⟨rfl, hb2⟩
    obtain ⟨p2, rfl⟩ := gw_of_below hb2
    clear hb2
    have hb2 : b < w1.heap.size + p2.os.size := by omega
    rcases hAF : (U.toList == [65, 70]) with _ | _
    · have hres : W = r := by rw [HWE.out, if_neg (fun h2 => by rw [h2.1] at hAF; cases hAF)]
      go_wp2_with fail
      go_ret2
      subst hres
      exact ⟨((((HK1.out.setCell 2 _).setCell 3 _).setCell 4 _).setCell 5 _).gw _, rfl, ((((HL1.out.kind 1).text _).n 0).off 0).gw _⟩
    · obtain ⟨c, hc⟩ : ∃ c : Int, ((bat s r).toNat : Int) = c := ⟨_, rfl⟩
      have hc39 : (bat s r = 39) ↔ c = 39 := by rw [← hc, ← UInt8.toNat_inj]; show (bat s r).toNat = 39 ↔ _; omega
      have hHP : ∀ w, LexAt w b s r t → Calls Tryz.prog 116 #[.pointer (some ⟨b, 0, none⟩)] w fun e w' => e = .returned (.int .u8 c) ∧ Below w.heap.size w w' := fun w h => by rw [← hc]; exact HPK1.out w h
      have HPK2 := Lib.hid hHP; clear hHP HPK1
      by_cases hq : c = 39
      · have hres : W = r + 1 := by rw [HWE.out, if_pos ⟨by simpa using hAF, hc39.2 hq⟩]
        have hrs : r < s.size := by
          rcases Nat.lt_or_ge r s.size with h | h
          · exact h
          · exfalso; rw [bat_out s r (by omega)] at hc; rw [← hc] at hq; cases hq
        have hext : sub s i r ++ ⟨#[39]⟩ = sub s i (r + 1) := by
          have := extract_snoc s i r (by omega) hrs
          rw [hc39.2 hq] at this; exact this
        have HEXT := Lib.hid hext; clear hext hc39 hc
        subst hq
        go_wp2_with fail
        refine (HPK2.out _ (HL1.out.gw _)).mono ?_
        rintro e w3 ⟨rfl, hb3⟩
        obtain ⟨p3, rfl⟩ := gw_of_below hb3
        clear hb3
        have hb3 : b < w1.heap.size + p2.os.size + p3.os.size := by omega
        go_wp2_with fail
        go_ret2
        subst hres
        refine ⟨((((((HK1.out.setCell 1 _).setCell 2 _).setCell 3 _).setCell 4 _).setCell 5 _).gw _).gw _, rfl, ?_⟩
        have := (((((((HL1.out.at ((r : Int) + 1)).kind 1).text (sub s i r ++ ⟨#[39]⟩)).n 0).off 0).gw p2).gw p3)
        rw [HEXT.out] at this ⊢
        exact this.cong (by simp)
      · have hres : W = r := by rw [HWE.out, if_neg (fun h2 => hq (hc39.1 h2.2))]
        have hq' : (c == 39) = false := by simpa using hq
        clear hc39 hc hq
        go_wp2_with fail
        refine (HPK2.out _ (HL1.out.gw _)).mono ?_
        rintro e w3 ⟨rfl, hb3⟩
        obtain ⟨p3, rfl⟩ := gw_of_below hb3
        clear hb3
        have hb3 : b < w1.heap.size + p2.os.size + p3.os.size := by omega
        go_wp2_with fail
        go_ret2
        subst hres
        exact ⟨(((((HK1.out.setCell 2 _).setCell 3 _).setCell 4 _).setCell 5 _).gw _).gw _, rfl, (((((HL1.out.kind 1).text _).n 0).off 0).gw _).gw _⟩

theorem sub2_hasPrefix (s : ByteArray) (i : Nat) (a b : UInt8) (hi : i ≤ s.size) : Lib.hasPrefix (sub s i s.size).data.toList [a, b] = (decide (i + 1 < s.size) && ((sub s i (i + 2)).toList == [a, b])) := by
  unfold Lib.hasPrefix sub
  rw [ByteArray.toList_eq]
  have e1 : (s.extract i s.size).data.toList = s.data.toList.drop i := by
    simp only [ByteArray.data_extract, Array.toList_extract, List.extract_eq_take_drop]
    exact List.take_of_length_le (by simp)
  have e2 : (s.extract i (i + 2)).data.toList = (s.data.toList.drop i).take 2 := by
    simp only [ByteArray.data_extract, Array.toList_extract, List.extract_eq_take_drop]
    rw [show i + 2 - i = 2 by omega]
  rw [e1, e2]
  have hl : s.size = s.data.toList.length := by simp
  have hd : (s.data.toList.drop i).length = s.size - i := by simp
  generalize s.data.toList.drop i = l at hd ⊢
  rcases l with _ | ⟨x, _ | ⟨y, l⟩⟩
  · simp
  · simp at hd
    have : ¬ i + 1 < s.size := by omega
    simp [this, List.isPrefixOf]
  · simp at hd
    have : i + 1 < s.size := by omega
    simp [this, List.isPrefixOf_cons_cons]
    rw [Bool.eq_iff_iff]; simp; constructor <;> (rintro ⟨h1, h2⟩; exact ⟨h1.symm, h2.symm⟩)
theorem signs_idx : ∀ n : Fin 256, decide (0 ≤ Lib.indexByte [44, 40, 41, 43, 45, 42, 47, 38, 124, 94, 126, 58, 61, 36] (UInt8.ofNat n.val)) = decide (UInt8.ofNat n.val ∈ signs1) := by decide +kernel
/-- The sign at an offset, as the program looks for it. -/
theorem signLen_eq (s : ByteArray) (i : Nat) (hi : i ≤ s.size) : signLen s i = if Lib.hasPrefix (sub s i s.size).data.toList [60, 60] = true ∨ Lib.hasPrefix (sub s i s.size).data.toList [62, 62] = true then 2 else if 0 ≤ Lib.indexByte [44, 40, 41, 43, 45, 42, 47, 38, 124, 94, 126, 58, 61, 36] (bat s i) then 1 else 0 := by
  rw [sub2_hasPrefix s i 60 60 hi, sub2_hasPrefix s i 62 62 hi]
  have hc := signs_idx ⟨(bat s i).toNat, (bat s i).toNat_lt⟩
  simp only [UInt8.ofNat_toNat] at hc
  rw [decide_eq_decide] at hc
  unfold signLen
  simp only [Bool.and_eq_true, decide_eq_true_eq, beq_iff_eq, ← and_or_left, hc]
  by_cases hlt : i < s.size
  · simp only [dif_pos hlt, bat_get s i hlt]
  · rw [dif_neg hlt, bat_out s i hlt]
    simp [signs1]

theorem sub_sub (s : ByteArray) (i k : Nat) (h : i + k ≤ s.size) : (sub s i s.size).extract 0 k = sub s i (i + k) := by
  unfold sub
  apply ByteArray.ext
  apply Array.ext'
  simp only [ByteArray.data_extract, Array.toList_extract, List.extract_eq_take_drop, List.drop_zero, Nat.sub_zero]
  rw [List.take_take]
  congr 1
  have : s.data.size = s.size := rfl
  omega

set_option maxHeartbeats 4000000 in
set_option maxRecDepth 100000 in
theorem sign_any (s : ByteArray) (i b : Nat) (t : Tok) (w : World) (hL : LexAt w b s i t) (hi : i ≤ s.size) (hs : s.size ≤ 1000000) :
    Calls Tryz.prog 120 #[.pointer (some ⟨b, 0, none⟩)] w (ReadRes (signP s i) s i b t w) := by
  obtain ⟨Q, hQ⟩ : ∃ Q, signP s i = Q := ⟨_, rfl⟩
  rw [hQ]
  unfold signP at hQ
  have hk2 : i + signLen s i ≤ s.size ∨ signLen s i = 0 := by
    by_cases hlt : i < s.size
    · exact .inl (signLen_le s i hlt).1
    · right; unfold signLen; rw [if_neg (by omega), dif_neg hlt]
  have hsl := signLen_eq s i hi
  have hpk := fun w hL => peek_any s i b t w hL
  have hrest := fun w hL => rest_any s i b t w hL hi
  obtain ⟨S, hS⟩ : ∃ S, sub s i s.size = S := ⟨_, rfl⟩
  have hSs : S.size = s.size - i := by rw [← hS]; unfold sub; rw [ByteArray.size_extract]; omega
  have hsub : ∀ k, i + k ≤ s.size → S.extract 0 k = sub s i (i + k) := fun k h => by rw [← hS]; exact sub_sub s i k h
  rw [hS] at hsl
  simp only [hS] at hrest
  have hp1 := fun w => Tryz.strings_HasPrefix S ⟨#[60, 60]⟩ w
  have hp2 := fun w => Tryz.strings_HasPrefix S ⟨#[62, 62]⟩ w
  obtain ⟨P1, hP1⟩ : ∃ P, Lib.hasPrefix S.data.toList [60, 60] = P := ⟨_, rfl⟩
  obtain ⟨P2, hP2⟩ : ∃ P, Lib.hasPrefix S.data.toList [62, 62] = P := ⟨_, rfl⟩
  simp only [hP1] at hp1
  simp only [hP2] at hp2
  have hidx := fun w => Tryz.strings_IndexByte ⟨#[44, 40, 41, 43, 45, 42, 47, 38, 124, 94, 126, 58, 61, 36]⟩ ((bat s i).toNat : Int) w
  have e1 : (((bat s i).toNat : Int).toNat.toUInt8) = bat s i := by rw [Int.toNat_natCast]; exact UInt8.ofNat_toNat
  simp only [e1] at hidx
  obtain ⟨q, hq⟩ : ∃ q, Lib.indexByte [44, 40, 41, 43, 45, 42, 47, 38, 124, 94, 126, 58, 61, 36] (bat s i) = q := ⟨_, rfl⟩
  simp only [hq] at hidx
  rw [hP1, hP2, hq] at hsl
  obtain ⟨c, hc⟩ : ∃ c : Int, ((bat s i).toNat : Int) = c := ⟨_, rfl⟩
  simp only [hc] at hidx hpk
  obtain ⟨k, hk⟩ : ∃ k, signLen s i = k := ⟨_, rfl⟩
  rw [hk] at hsl hk2 hQ
  obtain ⟨c0, c1, c2, c3, c4, c5, hb, f0, f1, f2, f3, f4, f5⟩ := hL.facts
  have hb1 : ∀ p : Regrown, b < w.heap.size + p.os.size := fun p => by omega
  have hi0 : (0 : Int) ≤ (i : Int) := by omega
  have hi1 : (i : Int) ≤ (s.size : Int) := by omega
  clear e1 hq hc hP1 hP2 hS hk
  have HL := Lib.hid hL; clear hL
  have HPK := Lib.hid hpk; clear hpk
  have HREST := Lib.hid hrest; clear hrest
  have HP1 := Lib.hid hp1; clear hp1
  have HP2 := Lib.hid hp2; clear hp2
  have HI := Lib.hid hidx; clear hidx
  have HSUB := Lib.hid hsub; clear hsub
  have HB := Lib.hid hb1; clear hb1
  rcases P1 with _ | _
  · rcases P2 with _ | _
    · rw [if_neg (by simp)] at hsl
      by_cases hq0 : 0 ≤ q
      · rw [if_pos hq0] at hsl
        subst hsl
        have hk3 : i + 1 ≤ s.size := by omega
        have hS2 : 1 ≤ S.size := by omega
        have hS3 : (1 : Int) ≤ (S.size : Int) := by omega
        rw [if_neg (by decide)] at hQ
        have HQ := Lib.hid hQ; clear hQ hk2 hSs
        go_enter Tryz.func120, Tryz.ntmps120
        go_wp2_with fail
        refine (HREST.out _ (HL.out)).mono ?_
        rintro e w1 ⟨rfl, hb1⟩
        obtain ⟨p1, rfl⟩ := gw_of_below hb1
        clear hb1
        have hb1 : b < w.heap.size + p1.os.size := by omega
        go_wp2_with fail
        refine (HP1.out _).mono ?_
        rintro e w1 ⟨rfl, rfl⟩
        go_wp2_with fail
        refine (HREST.out _ ((HL.out).gw _)).mono ?_
        rintro e w1 ⟨rfl, hb2⟩
        obtain ⟨p2, rfl⟩ := gw_of_below hb2
        clear hb2
        have hb2 : b < w.heap.size + p1.os.size + p2.os.size := by omega
        go_wp2_with fail
        refine (HP2.out _).mono ?_
        rintro e w1 ⟨rfl, rfl⟩
        go_wp2_with fail
        refine (HPK.out _ (((HL.out).gw _).gw _)).mono ?_
        rintro e w1 ⟨rfl, hb3⟩
        obtain ⟨p3, rfl⟩ := gw_of_below hb3
        clear hb3
        have hb3 : b < w.heap.size + p1.os.size + p2.os.size + p3.os.size := by omega
        go_wp2_with fail
        refine (HI.out _).mono ?_
        rintro e w1 ⟨rfl, rfl⟩
        go_wp2_with fail
        refine (HREST.out _ ((((HL.out).gw _).gw _).gw _)).mono ?_
        rintro e w1 ⟨rfl, hb4⟩
        obtain ⟨p4, rfl⟩ := gw_of_below hb4
        clear hb4
        have hb4 : b < w.heap.size + p1.os.size + p2.os.size + p3.os.size + p4.os.size := by omega
        go_wp2_with fail
        go_ret2
        rw [← HQ.out]
        refine ⟨by (with_reducible repeat (first | refine Kb.gw ?_ _ | refine Kb.setCell ?_ _ _ | refine Kb.alloc ?_ _ | refine Kb.drew ?_ | exact Kb.refl _ _ | exact HK.out)), rfl, ?_⟩
        refine LexAt.cast (by (with_reducible repeat (first | apply LexAt.gw | apply LexAt.at | apply LexAt.kind | apply LexAt.text | apply LexAt.n | apply LexAt.off | apply LexAt.alloc | apply LexAt.drew | exact HL.out))) ?_ ?_
        · simp
        · rw [HSUB.out 1 (by omega)]
      · rw [if_neg hq0] at hsl
        subst hsl
        rw [if_pos rfl] at hQ
        have HQ := Lib.hid hQ; clear hQ hk2 hSs
        go_enter Tryz.func120, Tryz.ntmps120
        go_wp2_with fail
        refine (HREST.out _ (HL.out)).mono ?_
        rintro e w1 ⟨rfl, hb1⟩
        obtain ⟨p1, rfl⟩ := gw_of_below hb1
        clear hb1
        have hb1 : b < w.heap.size + p1.os.size := by omega
        go_wp2_with fail
        refine (HP1.out _).mono ?_
        rintro e w1 ⟨rfl, rfl⟩
        go_wp2_with fail
        refine (HREST.out _ ((HL.out).gw _)).mono ?_
        rintro e w1 ⟨rfl, hb2⟩
        obtain ⟨p2, rfl⟩ := gw_of_below hb2
        clear hb2
        have hb2 : b < w.heap.size + p1.os.size + p2.os.size := by omega
        go_wp2_with fail
        refine (HP2.out _).mono ?_
        rintro e w1 ⟨rfl, rfl⟩
        go_wp2_with fail
        refine (HPK.out _ (((HL.out).gw _).gw _)).mono ?_
        rintro e w1 ⟨rfl, hb3⟩
        obtain ⟨p3, rfl⟩ := gw_of_below hb3
        clear hb3
        have hb3 : b < w.heap.size + p1.os.size + p2.os.size + p3.os.size := by omega
        go_wp2_with fail
        refine (HI.out _).mono ?_
        rintro e w1 ⟨rfl, rfl⟩
        go_wp2_with fail
        go_ret2
        rw [← HQ.out]
        exact ⟨by (with_reducible repeat (first | refine Kb.gw ?_ _ | refine Kb.setCell ?_ _ _ | refine Kb.alloc ?_ _ | refine Kb.drew ?_ | exact Kb.refl _ _ | exact HK.out)), rfl, i, t, by omega, by (with_reducible repeat (first | apply LexAt.gw | apply LexAt.at | apply LexAt.kind | apply LexAt.text | apply LexAt.n | apply LexAt.off | apply LexAt.alloc | apply LexAt.drew | exact HL.out))⟩
    · rw [if_pos (.inr rfl)] at hsl
      subst hsl
      have hk3 : i + 2 ≤ s.size := by omega
      have hS2 : 2 ≤ S.size := by omega
      have hS3 : (2 : Int) ≤ (S.size : Int) := by omega
      rw [if_neg (by decide)] at hQ
      have HQ := Lib.hid hQ; clear hQ hk2 hSs
      go_enter Tryz.func120, Tryz.ntmps120
      go_wp2_with fail
      refine (HREST.out _ (HL.out)).mono ?_
      rintro e w1 ⟨rfl, hb1⟩
      obtain ⟨p1, rfl⟩ := gw_of_below hb1
      clear hb1
      have hb1 : b < w.heap.size + p1.os.size := by omega
      go_wp2_with fail
      refine (HP1.out _).mono ?_
      rintro e w1 ⟨rfl, rfl⟩
      go_wp2_with fail
      refine (HREST.out _ ((HL.out).gw _)).mono ?_
      rintro e w1 ⟨rfl, hb2⟩
      obtain ⟨p2, rfl⟩ := gw_of_below hb2
      clear hb2
      have hb2 : b < w.heap.size + p1.os.size + p2.os.size := by omega
      go_wp2_with fail
      refine (HP2.out _).mono ?_
      rintro e w1 ⟨rfl, rfl⟩
      go_wp2_with fail
      refine (HREST.out _ (((HL.out).gw _).gw _)).mono ?_
      rintro e w1 ⟨rfl, hb3⟩
      obtain ⟨p3, rfl⟩ := gw_of_below hb3
      clear hb3
      have hb3 : b < w.heap.size + p1.os.size + p2.os.size + p3.os.size := by omega
      go_wp2_with fail
      go_ret2
      rw [← HQ.out]
      refine ⟨by (with_reducible repeat (first | refine Kb.gw ?_ _ | refine Kb.setCell ?_ _ _ | refine Kb.alloc ?_ _ | refine Kb.drew ?_ | exact Kb.refl _ _ | exact HK.out)), rfl, ?_⟩
      refine LexAt.cast (by (with_reducible repeat (first | apply LexAt.gw | apply LexAt.at | apply LexAt.kind | apply LexAt.text | apply LexAt.n | apply LexAt.off | apply LexAt.alloc | apply LexAt.drew | exact HL.out))) ?_ ?_
      · simp
      · rw [HSUB.out 2 (by omega)]
  · rw [if_pos (.inl rfl)] at hsl
    subst hsl
    have hk3 : i + 2 ≤ s.size := by omega
    have hS2 : 2 ≤ S.size := by omega
    have hS3 : (2 : Int) ≤ (S.size : Int) := by omega
    rw [if_neg (by decide)] at hQ
    have HQ := Lib.hid hQ; clear hQ hk2 hSs
    go_enter Tryz.func120, Tryz.ntmps120
    go_wp2_with fail
    refine (HREST.out _ (HL.out)).mono ?_
    rintro e w1 ⟨rfl, hb1⟩
    obtain ⟨p1, rfl⟩ := gw_of_below hb1
    clear hb1
    have hb1 : b < w.heap.size + p1.os.size := by omega
    go_wp2_with fail
    refine (HP1.out _).mono ?_
    rintro e w1 ⟨rfl, rfl⟩
    go_wp2_with fail
    refine (HREST.out _ ((HL.out).gw _)).mono ?_
    rintro e w1 ⟨rfl, hb2⟩
    obtain ⟨p2, rfl⟩ := gw_of_below hb2
    clear hb2
    have hb2 : b < w.heap.size + p1.os.size + p2.os.size := by omega
    go_wp2_with fail
    go_ret2
    rw [← HQ.out]
    refine ⟨by (with_reducible repeat (first | refine Kb.gw ?_ _ | refine Kb.setCell ?_ _ _ | refine Kb.alloc ?_ _ | refine Kb.drew ?_ | exact Kb.refl _ _ | exact HK.out)), rfl, ?_⟩
    refine LexAt.cast (by (with_reducible repeat (first | apply LexAt.gw | apply LexAt.at | apply LexAt.kind | apply LexAt.text | apply LexAt.n | apply LexAt.off | apply LexAt.alloc | apply LexAt.drew | exact HL.out))) ?_ ?_
    · simp
    · rw [HSUB.out 2 (by omega)]
end Go.Proofs.YtnjpfhihbjihbaaGreatDoor

/- num.digits: digits to a base. -/
namespace Go.Proofs.YtnjpfhihbjihbaaGreatDoor
open Go.RowKit Go.Sort

def hexTab : ByteArray := ⟨#[48, 49, 50, 51, 52, 53, 54, 55, 56, 57, 65, 66, 67, 68, 69, 70]⟩
theorem digIdx : ∀ n : Fin 256, Lib.indexByte [48, 49, 50, 51, 52, 53, 54, 55, 56, 57, 65, 66, 67, 68, 69, 70] (UInt8.ofNat n.val) = if digU (UInt8.ofNat n.val) = 99 then -1 else (digU (UInt8.ofNat n.val) : Int) := by decide +kernel
theorem digIdx' (c : UInt8) : Lib.indexByte [48, 49, 50, 51, 52, 53, 54, 55, 56, 57, 65, 66, 67, 68, 69, 70] ((c.toNat : Int).toNat.toUInt8) = if digU c = 99 then -1 else (digU c : Int) := by
  have h := digIdx ⟨c.toNat, c.toNat_lt⟩
  simp only [UInt8.ofNat_toNat] at h
  rw [← h]
  congr 1
  rw [Int.toNat_natCast]
  exact UInt8.ofNat_toNat
theorem digU_99 (c : UInt8) (h : digU c ≠ 99) : digU c ≤ 15 := by
  unfold digU at h ⊢
  repeat' split at h
  · rename_i h1; rw [if_pos h1]; omega
  · rename_i h1 h2; rw [if_neg h1, if_pos h2]; omega
  · exact absurd rfl h
/-- What a look for a number hands back. -/
def dR (o : Option Nat) : Int × Bool := match o with | some n => (n, true) | none => (0, false)
theorem numR_eq (s : ByteArray) : numR s = dR (numP s) := rfl
theorem str_get (s : ByteArray) (k : Nat) (h : k < s.size) : s.data.toList.drop k = s[k] :: s.data.toList.drop (k + 1) := by
  rw [List.drop_eq_getElem_cons (by simpa using h)]
  simp; rfl

set_option maxHeartbeats 1000000 in
theorem digits_any (s : ByteArray) (b : Nat) (w : World) (hs : s.size ≤ 1000000) (hb : 1 ≤ b) (hb2 : b ≤ 16) :
    Calls Tryz.prog 160 #[.string s, .int .i64 b] w fun e w' => e = .returned (.tuple #[.int .i64 (dR (valU b s.data.toList)).1, .bool (dR (valU b s.data.toList)).2]) ∧ w = w' := by
  obtain ⟨R, hR⟩ : ∃ R, dR (valU b s.data.toList) = R := ⟨_, rfl⟩
  rw [hR]
  by_cases h0 : s.size = 0
  · have he : s.data.toList = [] := List.eq_nil_of_length_eq_zero (by simpa using h0)
    have he2 : s.toList = [] := by rw [ByteArray.toList_eq]; exact he
    have he3 : s.toList.isEmpty = true := by rw [he2]; rfl
    obtain rfl : (0, false) = R := by rw [← hR, he]; rfl
    clear hR
    have h0' : (s.size : Int) ≤ 0 := by omega
    go_enter Tryz.func160, Tryz.ntmps160
    go_wp2_with fail
    go_loop [6, 7, 11] (fun x _ i => x = .int .i64 0 ∧ i = .int .i64 0) (fun _ _ _ => 0)
    case atStart => exact ⟨rfl, rfl⟩
    case round =>
      obtain ⟨rfl, rfl⟩ := hrel
      go_wp2_with fail
      go_ret2
      exact ⟨rfl, rfl⟩
  · have hne : s.data.toList ≠ [] := by intro h; apply h0; have := congrArg List.length h; simpa using this
    have hne2 : ¬ s.toList = [] := by rw [ByteArray.toList_eq]; exact hne
    have hne3 : s.toList.isEmpty = false := by simpa using hne2
    have hR2 : dR (valGo b 0 s.data.toList) = R := by
      rw [← hR]
      unfold valU
      rw [if_neg hne]
    have HR := Lib.hid hR2; clear hR hR2 hne
    have hb0 : (1 : Int) ≤ (b : Int) := by omega
    have hb3 : (b : Int) ≤ 16 := by omega
    go_enter Tryz.func160, Tryz.ntmps160
    go_wp2_with fail
    go_loop [6, 7, 11] (fun x _ i => ∃ k n : Nat, k ≤ s.size ∧ n ≤ 65535 ∧ i = .int .i64 k ∧ x = .int .i64 n ∧ Hid (valGo b 0 s.data.toList = valGo b n (s.data.toList.drop k))) (fun _ _ i => s.size - (intOf i).toNat)
    case atStart => exact ⟨0, 0, Nat.zero_le _, Nat.zero_le _, rfl, rfl, Lib.hid rfl⟩
    case round =>
      obtain ⟨k, n, hk, hn, rfl, rfl, HK⟩ := hrel
      by_cases hlt : k < s.size
      · have hi0 : (0 : Int) ≤ (k : Int) := by omega
        have hi1 : (k : Int) < (s.size : Int) := by omega
        obtain ⟨d, hd⟩ : ∃ d, digU s[k] = d := ⟨_, rfl⟩
        have hidx := fun w => Tryz.strings_IndexByte ⟨#[48, 49, 50, 51, 52, 53, 54, 55, 56, 57, 65, 66, 67, 68, 69, 70]⟩ (s[k].toNat : Int) w
        have hdx := digIdx' s[k]
        have hd99 := digU_99 s[k]
        rw [hd] at hdx hd99
        have hkk := HK.out
        rw [str_get s k hlt, valGo_cons, hd] at hkk
        clear HK
        by_cases h99 : d = 99
        · rw [if_pos h99] at hdx
          simp only [hdx] at hidx
          rw [if_pos (by omega)] at hkk
          have HKK := Lib.hid hkk; clear hkk hdx hd99 h99 hd
          have HI := Lib.hid hidx; clear hidx
          go_wp2_with fail
          refine (HI.out _).mono ?_
          rintro e w1 ⟨rfl, rfl⟩
          go_wp2_with fail
          go_ret2
          exact ⟨by rw [← HR.out, HKK.out]; rfl, rfl⟩
        · have hd15 := hd99 h99
          rw [if_neg h99] at hdx
          simp only [hdx] at hidx
          have hd0 : (0 : Int) ≤ (d : Int) := by omega
          have hd1 : (d : Int) ≤ 15 := by omega
          have hnb : n * b ≤ 65535 * 16 := Nat.mul_le_mul hn hb2
          have hc : ((n * b : Nat) : Int) = (n : Int) * (b : Int) := by simp
          have hnb0 : (0 : Int) ≤ (n : Int) * (b : Int) := by omega
          have hnb1 : (n : Int) * (b : Int) ≤ 1048560 := by omega
          clear hdx hd99 h99 hd
          have HI := Lib.hid hidx; clear hidx
          by_cases hbd : b ≤ d
          · rw [if_pos hbd] at hkk
            have HKK := Lib.hid hkk; clear hkk
            have hbd' : (b : Int) ≤ (d : Int) := by omega
            clear hc
            go_wp2_with fail
            refine (HI.out _).mono ?_
            rintro e w1 ⟨rfl, rfl⟩
            go_wp2_with fail
            go_ret2
            exact ⟨by rw [← HR.out, HKK.out]; rfl, rfl⟩
          · rw [if_neg hbd] at hkk
            have hbd' : (d : Int) < (b : Int) := by omega
            by_cases hbig : 65535 < n * b + d
            · rw [if_pos hbig] at hkk
              have HKK := Lib.hid hkk; clear hkk
              have hbig' : (65535 : Int) < (n : Int) * (b : Int) + (d : Int) := by omega
              clear hc
              go_wp2_with fail
              refine (HI.out _).mono ?_
              rintro e w1 ⟨rfl, rfl⟩
              go_wp2_with fail
              go_ret2
              exact ⟨by rw [← HR.out, HKK.out]; rfl, rfl⟩
            · rw [if_neg hbig] at hkk
              have HKK := Lib.hid hkk; clear hkk
              have hbig' : (n : Int) * (b : Int) + (d : Int) ≤ 65535 := by omega
              have hcc : ((n * b + d : Nat) : Int) = (n : Int) * (b : Int) + (d : Int) := by omega
              have HC := Lib.hid hcc; clear hc hcc
              go_wp2_with fail
              refine (HI.out _).mono ?_
              rintro e w1 ⟨rfl, rfl⟩
              go_wp2_with fail
              go_round
              case rel => exact ⟨k + 1, n * b + d, by omega, by omega, by go_num, by rw [HC.out], HKK⟩
              case measure => simp [intOf]; omega
      · obtain rfl : k = s.size := by omega
        have hkk := HK.out
        rw [List.drop_of_length_le (by simp), valGo_nil] at hkk
        have HKK := Lib.hid hkk; clear hkk HK
        go_wp2_with fail
        go_ret2
        exact ⟨by rw [← HR.out, HKK.out]; rfl, rfl⟩
end Go.Proofs.YtnjpfhihbjihbaaGreatDoor
