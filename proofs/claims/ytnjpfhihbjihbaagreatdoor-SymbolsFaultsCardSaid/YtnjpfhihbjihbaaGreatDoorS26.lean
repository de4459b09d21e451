/- Joined texts: LexF, LexG, SMapW. -/
import Derived.Test.YtnjpfhihbjihbaaGreatDoorS05
import Derived.Test.YtnjpfhihbjihbaaGreatDoorS09
import Derived.Test.YtnjpfhihbjihbaaGreatDoorS17
import Derived.Test.YtnjpfhihbjihbaaGreatDoorS24
import Derived.Test.YtnjpfhihbjihbaaGreatDoorS25
import Derived.Maps.RangeRun
import Derived.OwnWalk
/- The program's lexer: the next token. (Written by wip/gen_lextoks.py.) -/
namespace Go.Proofs.YtnjpfhihbjihbaaGreatDoor
open Go.RowKit Go.Sort

def rdP (k : Nat) (s : ByteArray) (i : Nat) : Option (Except Int (Tok × Nat)) := match k with | 0 => wordP s i | 1 => numberP s i | 2 => textP s i | _ => signP s i
def rdRest (s : ByteArray) (i : Nat) : Nat → Option (Except Int (Tok × Nat))
  | 0 => none
  | k + 1 => (rdP (3 - k) s i).or (rdRest s i k)
theorem rdRest_eq (s : ByteArray) (i : Nat) : rdRest s i 4 = some (nextP s i) := by
  rw [nextP_eq]
  show (wordP s i).or ((numberP s i).or ((textP s i).or ((signP s i).or none))) = _
  rw [Option.or_none]
theorem nextP_off (s : ByteArray) (i : Nat) (t : Tok) (n : Nat) (h : nextP s i = .ok (t, n)) : t.off = i := by
  unfold nextP at h
  split at h
  · cases h; rfl
  · split at h
    · split at h
      · cases h; rfl
      · cases h
    · split at h
      · split at h
        · cases h; rfl
        · cases h
      · split at h
        · cases h
        · cases h; rfl
theorem index4 (a0 a1 a2 a3 : Value) (w : World) :
    (Instr.index 188 (.agg #[a0, a1, a2, a3]) (.int .i64 0)).run Tryz.prog w = .ok a0 w ∧ (Instr.index 188 (.agg #[a0, a1, a2, a3]) (.int .i64 1)).run Tryz.prog w = .ok a1 w ∧
    (Instr.index 188 (.agg #[a0, a1, a2, a3]) (.int .i64 2)).run Tryz.prog w = .ok a2 w ∧ (Instr.index 188 (.agg #[a0, a1, a2, a3]) (.int .i64 3)).run Tryz.prog w = .ok a3 w := by
  refine ⟨?_, ?_, ?_, ?_⟩ <;> (change _ = _; kernel_rfl)
/-- What next leaves. -/
def NextRes (x : Except Int (Tok × Nat)) (s : ByteArray) (b : Nat) (w : World) (e : Ending) (w' : World) : Prop :=
  Kb b w w' ∧ match x with
  | .error c => e = .returned (.int .i64 c)
  | .ok y => e = .returned (.int .i64 0) ∧ LexAt w' b s y.2 y.1

set_option maxHeartbeats 8000000 in
set_option maxRecDepth 100000 in
theorem next_any (s : ByteArray) (i b : Nat) (t : Tok) (w : World) (hL : LexAt w b s i t) (hi : i ≤ s.size) (hs : s.size ≤ 1000000) :
    Calls Tryz.prog 68 #[.pointer (some ⟨b, 0, none⟩)] w (NextRes (nextP s i) s b w) := by
  have hmf : ∀ (fn : Fn) (first cap : Array Value) (w : World), (Instr.makeFunc fn first cap).run Tryz.prog w = .ok (.func fn first cap) w := fun _ _ _ _ => rfl
  obtain ⟨Q, hQ⟩ : ∃ Q, nextP s i = Q := ⟨_, rfl⟩
  have hoff : ∀ y, Q = .ok y → y.1.off = i := fun y hy => nextP_off s i y.1 y.2 (by rw [hQ, hy])
  have hR := rdRest_eq s i
  rw [hQ] at hR ⊢
  have HOFF := Lib.hid hoff; clear hoff hQ
  have HR := Lib.hid hR; clear hR
  have hi0 : (0 : Int) ≤ (i : Int) := by omega
  obtain ⟨c0, c1, c2, c3, c4, c5, hb, f0, f1, f2, f3, f4, f5⟩ := hL.facts
  have HL := Lib.hid hL; clear hL
  go_enter Tryz.func68, Tryz.ntmps68
  go_wp2_with fail
  clear c0 c1 c2 c3 c4 c5 hb f0 f1 f2 f3 f4 f5
  go_loopw [5, 6, 7, 22] (fun _ _ _ v wr => ∃ k : Nat, k ≤ 3 ∧ v = .int .i64 k ∧ LexAt wr b s i t ∧ Kb b w wr ∧ Hid (rdRest s i (4 - k) = some Q)) (fun _ _ _ v _ => 4 - (intOf v).toNat)
  case atStart => exact ⟨0, by omega, rfl, HL.out, Kb.refl _ _, HR⟩
  case round =>
    obtain ⟨k, hk, rfl, hLk, hKk, HK0⟩ := hrel
    have HLk := Lib.hid hLk; clear hLk
    have HKk := Lib.hid hKk; clear hKk
    have hcase : k = 0 ∨ k = 1 ∨ k = 2 ∨ k = 3 := by omega
    rcases hcase with rfl | rfl | rfl | rfl
    · have hix := fun (a0 a1 a2 a3 : Value) (w : World) => (index4 a0 a1 a2 a3 w).1
      have hrd := word_any s i b t wr HLk.out hi hs
      have hst : rdRest s i (4 - 0) = (wordP s i).or (rdRest s i (4 - 1)) := rfl
      rcases hx : wordP s i with _ | x
      · rw [hx] at hrd hst
        have HRD := Lib.hid hrd; clear hrd
        have HST := Lib.hid hst; clear hst hx
        go_wp2_with fail
        refine HRD.out.mono ?_
        rintro e w1 ⟨hk1, rfl, hL1⟩
        have HL1 := Lib.hid hL1; clear hL1
        have HK1 := Lib.hid (HKk.out.trans hk1); clear hk1
        go_wp2_with fail
        go_roundw
        case rel => exact ⟨1, by omega, by go_num, HL1.out, HK1.out, Lib.hid (by rw [← HK0.out, HST.out]; rfl)⟩
        case measure => simp [intOf]
      · rw [hx] at hrd hst
        have hQx : x = Q := by
          have h := HK0.out
          rw [hst] at h
          exact Option.some.inj h
        subst hQx
        have HRD := Lib.hid hrd; clear hrd
        clear hst hx
        rcases x with c | ⟨u, n⟩
        · go_wp2_with fail
          refine HRD.out.mono ?_
          rintro e w1 ⟨hk1, rfl, j, u, hj, hL1⟩
          obtain ⟨c0, c1, c2, c3, c4, c5, hb, f0, f1, f2, f3, f4, f5⟩ := hL1.facts
          have HK := Lib.hid (HKk.out.trans hk1); clear hk1 hL1
          go_wp2_with fail
          go_ret
          exact ⟨by (with_reducible repeat (first | refine Kb.gw ?_ _ | refine Kb.setCell ?_ _ _ | refine Kb.alloc ?_ _ | refine Kb.drew ?_ | exact Kb.refl _ _ | exact HK.out)), rfl⟩
        · go_wp2_with fail
          refine HRD.out.mono ?_
          rintro e w1 ⟨hk1, rfl, hL1⟩
          obtain ⟨c0, c1, c2, c3, c4, c5, hb, f0, f1, f2, f3, f4, f5⟩ := hL1.facts
          have HL1 := Lib.hid hL1; clear hL1
          have HK := Lib.hid (HKk.out.trans hk1); clear hk1
          have hof := HOFF.out _ rfl
          have HOF := Lib.hid hof; clear hof
          go_wp2_with fail
          go_ret
          refine ⟨by (with_reducible repeat (first | refine Kb.gw ?_ _ | refine Kb.setCell ?_ _ _ | refine Kb.alloc ?_ _ | refine Kb.drew ?_ | exact Kb.refl _ _ | exact HK.out)), rfl, ?_⟩
          have HL := HL1
          refine LexAt.cast (by (with_reducible repeat (first | apply LexAt.gw | apply LexAt.at | apply LexAt.kind | apply LexAt.text | apply LexAt.n | apply LexAt.off | apply LexAt.alloc | apply LexAt.drew | exact HL.out))) ?_ ?_
          · rfl
          · obtain ⟨k1, k2, k3, k4⟩ := u
            have h := HOF.out
            simp only at h
            subst h
            rfl
    · have hix := fun (a0 a1 a2 a3 : Value) (w : World) => (index4 a0 a1 a2 a3 w).2.1
      have hrd := number_any s i b t wr HLk.out hi hs
      have hst : rdRest s i (4 - 1) = (numberP s i).or (rdRest s i (4 - 2)) := rfl
      rcases hx : numberP s i with _ | x
      · rw [hx] at hrd hst
        have HRD := Lib.hid hrd; clear hrd
        have HST := Lib.hid hst; clear hst hx
        go_wp2_with fail
        refine HRD.out.mono ?_
        rintro e w1 ⟨hk1, rfl, hL1⟩
        have HL1 := Lib.hid hL1; clear hL1
        have HK1 := Lib.hid (HKk.out.trans hk1); clear hk1
        go_wp2_with fail
        go_roundw
        case rel => exact ⟨2, by omega, by go_num, HL1.out, HK1.out, Lib.hid (by rw [← HK0.out, HST.out]; rfl)⟩
        case measure => simp [intOf]
      · rw [hx] at hrd hst
        have hQx : x = Q := by
          have h := HK0.out
          rw [hst] at h
          exact Option.some.inj h
        subst hQx
        have HRD := Lib.hid hrd; clear hrd
        clear hst hx
        rcases x with c | ⟨u, n⟩
        · go_wp2_with fail
          refine HRD.out.mono ?_
          rintro e w1 ⟨hk1, rfl, j, u, hj, hL1⟩
          obtain ⟨c0, c1, c2, c3, c4, c5, hb, f0, f1, f2, f3, f4, f5⟩ := hL1.facts
          have HK := Lib.hid (HKk.out.trans hk1); clear hk1 hL1
          go_wp2_with fail
          go_ret
          exact ⟨by (with_reducible repeat (first | refine Kb.gw ?_ _ | refine Kb.setCell ?_ _ _ | refine Kb.alloc ?_ _ | refine Kb.drew ?_ | exact Kb.refl _ _ | exact HK.out)), rfl⟩
        · go_wp2_with fail
          refine HRD.out.mono ?_
          rintro e w1 ⟨hk1, rfl, hL1⟩
          obtain ⟨c0, c1, c2, c3, c4, c5, hb, f0, f1, f2, f3, f4, f5⟩ := hL1.facts
          have HL1 := Lib.hid hL1; clear hL1
          have HK := Lib.hid (HKk.out.trans hk1); clear hk1
          have hof := HOFF.out _ rfl
          have HOF := Lib.hid hof; clear hof
          go_wp2_with fail
          go_ret
          refine ⟨by (with_reducible repeat (first | refine Kb.gw ?_ _ | refine Kb.setCell ?_ _ _ | refine Kb.alloc ?_ _ | refine Kb.drew ?_ | exact Kb.refl _ _ | exact HK.out)), rfl, ?_⟩
          have HL := HL1
          refine LexAt.cast (by (with_reducible repeat (first | apply LexAt.gw | apply LexAt.at | apply LexAt.kind | apply LexAt.text | apply LexAt.n | apply LexAt.off | apply LexAt.alloc | apply LexAt.drew | exact HL.out))) ?_ ?_
          · rfl
          · obtain ⟨k1, k2, k3, k4⟩ := u
            have h := HOF.out
            simp only at h
            subst h
            rfl
    · have hix := fun (a0 a1 a2 a3 : Value) (w : World) => (index4 a0 a1 a2 a3 w).2.2.1
      have hrd := text_any s i b t wr HLk.out hi hs
      have hst : rdRest s i (4 - 2) = (textP s i).or (rdRest s i (4 - 3)) := rfl
      rcases hx : textP s i with _ | x
      · rw [hx] at hrd hst
        have HRD := Lib.hid hrd; clear hrd
        have HST := Lib.hid hst; clear hst hx
        go_wp2_with fail
        refine HRD.out.mono ?_
        rintro e w1 ⟨hk1, rfl, hL1⟩
        have HL1 := Lib.hid hL1; clear hL1
        have HK1 := Lib.hid (HKk.out.trans hk1); clear hk1
        go_wp2_with fail
        go_roundw
        case rel => exact ⟨3, by omega, by go_num, HL1.out, HK1.out, Lib.hid (by rw [← HK0.out, HST.out]; rfl)⟩
        case measure => simp [intOf]
      · rw [hx] at hrd hst
        have hQx : x = Q := by
          have h := HK0.out
          rw [hst] at h
          exact Option.some.inj h
        subst hQx
        have HRD := Lib.hid hrd; clear hrd
        clear hst hx
        rcases x with c | ⟨u, n⟩
        · go_wp2_with fail
          refine HRD.out.mono ?_
          rintro e w1 ⟨hk1, rfl, j, u, hj, hL1⟩
          obtain ⟨c0, c1, c2, c3, c4, c5, hb, f0, f1, f2, f3, f4, f5⟩ := hL1.facts
          have HK := Lib.hid (HKk.out.trans hk1); clear hk1 hL1
          go_wp2_with fail
          go_ret
          exact ⟨by (with_reducible repeat (first | refine Kb.gw ?_ _ | refine Kb.setCell ?_ _ _ | refine Kb.alloc ?_ _ | refine Kb.drew ?_ | exact Kb.refl _ _ | exact HK.out)), rfl⟩
        · go_wp2_with fail
          refine HRD.out.mono ?_
          rintro e w1 ⟨hk1, rfl, hL1⟩
          obtain ⟨c0, c1, c2, c3, c4, c5, hb, f0, f1, f2, f3, f4, f5⟩ := hL1.facts
          have HL1 := Lib.hid hL1; clear hL1
          have HK := Lib.hid (HKk.out.trans hk1); clear hk1
          have hof := HOFF.out _ rfl
          have HOF := Lib.hid hof; clear hof
          go_wp2_with fail
          go_ret
          refine ⟨by (with_reducible repeat (first | refine Kb.gw ?_ _ | refine Kb.setCell ?_ _ _ | refine Kb.alloc ?_ _ | refine Kb.drew ?_ | exact Kb.refl _ _ | exact HK.out)), rfl, ?_⟩
          have HL := HL1
          refine LexAt.cast (by (with_reducible repeat (first | apply LexAt.gw | apply LexAt.at | apply LexAt.kind | apply LexAt.text | apply LexAt.n | apply LexAt.off | apply LexAt.alloc | apply LexAt.drew | exact HL.out))) ?_ ?_
          · rfl
          · obtain ⟨k1, k2, k3, k4⟩ := u
            have h := HOF.out
            simp only at h
            subst h
            rfl
    · have hix := fun (a0 a1 a2 a3 : Value) (w : World) => (index4 a0 a1 a2 a3 w).2.2.2
      have hrd := sign_any s i b t wr HLk.out hi hs
      have hst : rdRest s i (4 - 3) = (signP s i).or (rdRest s i (4 - 4)) := rfl
      rcases hx : signP s i with _ | x
      · exfalso; unfold signP at hx; cases hx
      · rw [hx] at hrd hst
        have hQx : x = Q := by
          have h := HK0.out
          rw [hst] at h
          exact Option.some.inj h
        subst hQx
        have HRD := Lib.hid hrd; clear hrd
        clear hst hx
        rcases x with c | ⟨u, n⟩
        · go_wp2_with fail
          refine HRD.out.mono ?_
          rintro e w1 ⟨hk1, rfl, j, u, hj, hL1⟩
          obtain ⟨c0, c1, c2, c3, c4, c5, hb, f0, f1, f2, f3, f4, f5⟩ := hL1.facts
          have HK := Lib.hid (HKk.out.trans hk1); clear hk1 hL1
          go_wp2_with fail
          go_ret
          exact ⟨by (with_reducible repeat (first | refine Kb.gw ?_ _ | refine Kb.setCell ?_ _ _ | refine Kb.alloc ?_ _ | refine Kb.drew ?_ | exact Kb.refl _ _ | exact HK.out)), rfl⟩
        · go_wp2_with fail
          refine HRD.out.mono ?_
          rintro e w1 ⟨hk1, rfl, hL1⟩
          obtain ⟨c0, c1, c2, c3, c4, c5, hb, f0, f1, f2, f3, f4, f5⟩ := hL1.facts
          have HL1 := Lib.hid hL1; clear hL1
          have HK := Lib.hid (HKk.out.trans hk1); clear hk1
          have hof := HOFF.out _ rfl
          have HOF := Lib.hid hof; clear hof
          go_wp2_with fail
          go_ret
          refine ⟨by (with_reducible repeat (first | refine Kb.gw ?_ _ | refine Kb.setCell ?_ _ _ | refine Kb.alloc ?_ _ | refine Kb.drew ?_ | exact Kb.refl _ _ | exact HK.out)), rfl, ?_⟩
          have HL := HL1
          refine LexAt.cast (by (with_reducible repeat (first | apply LexAt.gw | apply LexAt.at | apply LexAt.kind | apply LexAt.text | apply LexAt.n | apply LexAt.off | apply LexAt.alloc | apply LexAt.drew | exact HL.out))) ?_ ?_
          · rfl
          · obtain ⟨k1, k2, k3, k4⟩ := u
            have h := HOF.out
            simp only at h
            subst h
            rfl
end Go.Proofs.YtnjpfhihbjihbaaGreatDoor

/- The program's tokens of a line. (Written by wip/gen_lextoks.py.) -/
namespace Go.Proofs.YtnjpfhihbjihbaaGreatDoor
open Go.RowKit Go.Sort

theorem infoTokL : (Tryz.prog.info? 140).map (fun i => (i.zero, i.size, i.bytes)) = some (some (.agg #[.int .i64 0, .string ⟨#[]⟩, .int .i64 0, .int .i64 0]), 4, 40) := by kernel_rfl
theorem Below.kb {b : Nat} {u v w : World} (h : Below b u v) (k : Kb b v w) (hs : b ≤ v.heap.size) : Below b u w :=
  ⟨k.os.trans h.os, k.tape.trans h.tape, k.output.trans h.output, Nat.le_trans h.size k.size, fun i hi => (k.block i (by omega) (by omega)).trans (h.block i hi)⟩
theorem owns_ne {w : World} {b : Nat} {e : TypeId} {size : Nat} {v : Value} {n : Nat} {xs : List Value} (h : w.ownsRow (b + 1) e size v n xs) : v.ownBlock ≠ some b := by
  rcases h.2 with ⟨hv, _⟩ | ⟨g, cap, cur, hv, hg, _⟩
  · rw [hv]; simp [Value.ownBlock]
  · rw [hv]; simp only [Value.ownBlock, ne_eq, Option.some.injEq]; omega
theorem LexAt.grown {w w' : World} {b : Nat} {s : ByteArray} {i : Int} {t : Tok} {row : Option Nat} (h : LexAt w b s i t) (hg : w.grownBy w' row) (hne : row ≠ some b) : LexAt w' b s i t := by
  unfold LexAt at *
  rw [hg.block b (lt_of_block h) (fun e => hne e.symm)]
  exact h

set_option maxHeartbeats 8000000 in
set_option maxRecDepth 100000 in
theorem toks_any (s : ByteArray) (w : World) : Calls Tryz.prog 38 #[.string s] w (TokRes (toksP s) w) := by
  obtain ⟨R, hR⟩ : ∃ R, toksP s = R := ⟨_, rfl⟩
  rw [hR]
  unfold toksP at hR
  by_cases hbig : 1024 < s.size
  · rw [if_pos hbig] at hR
    subst hR
    have hbig' : (1024 : Int) < (s.size : Int) := by omega
    go_enter Tryz.func38, Tryz.ntmps38
    go_wp2_with fail
    go_ret2
    exact ⟨rfl, Below.refl _ _⟩
  · rw [if_neg hbig] at hR
    have hbig' : ¬ (1024 : Int) < (s.size : Int) := by omega
    have HR := Lib.hid hR; clear hR
    have hs : s.size ≤ 1000000 := by omega
    obtain ⟨i0, hi, hz0, hz1, hz2⟩ := info_parts infoTokL
    go_enter Tryz.func38, Tryz.ntmps38
    go_wp2_with fail
    have hst : LexAt (w.alloc (.cells #[.string s, .int .i64 0, .int .i64 0, .string ⟨#[]⟩, .int .i64 0, .int .i64 0] 142)) w.heap.size s ((0 : Nat) : Int) ⟨0, ⟨#[]⟩, 0, 0⟩ := by
      unfold LexAt; exact alloc_at' _ _
    have hbl : Below w.heap.size w (w.alloc (.cells #[.string s, .int .i64 0, .int .i64 0, .string ⟨#[]⟩, .int .i64 0, .int .i64 0] 142)) := by (repeat (first | exact Below.refl _ _ | refine Below.drew ?_ | (refine below_gw' ?_ (by first | omega | (simp [go_sem]; done) | (simp [go_sem]; omega)) _) | (refine Below.alloc ?_ (by first | omega | (simp [go_sem]; done) | (simp [go_sem]; omega)) _) | (refine Below.setCell ?_ (by first | omega | (simp [go_sem]; done) | (simp [go_sem]; omega)) _)))
    have HST := Lib.hid hst; clear hst
    have HBL := Lib.hid hbl; clear hbl
    obtain ⟨b, hbb⟩ : ∃ b, w.heap.size = b := ⟨_, rfl⟩
    rw [hbb] at HST HBL ⊢
    have HBB := Lib.hid hbb; clear hbb
    go_loopw [5, 6] (fun v _ wr => ∃ (k : Nat) (acc : List Tok) (t : Tok), k ≤ s.size ∧ acc.length ≤ k ∧ LexAt wr b s k t ∧ wr.ownsRow (b + 1) 140 4 v acc.length (tokc acc) ∧ Below b w wr ∧ Hid (toksGo s k acc = R)) (fun _ _ wr => s.size - (offAt wr b).toNat)
    case atStart => exact ⟨0, [], _, Nat.zero_le _, Nat.le_refl _, HST.out, World.ownsRow_nil _ _ _ _, HBL.out, HR⟩
    case round =>
      obtain ⟨k, acc, t, hk, hac, hLk, hown, hbel, HK0⟩ := hrel
      have hblk := fun w hL => blanks_any s k b t w hL hk hs
      obtain ⟨j, hj⟩ : ∃ j, skipEnd s k = j := ⟨_, rfl⟩
      have hj1 := skipEnd_ge s k
      have hj2 := skipEnd_le s k hk
      rw [hj] at hj1 hj2
      simp only [hj] at hblk
      have hb0 : b < wr.heap.size := hLk.facts.2.2.2.2.2.2.1
      have HLk := Lib.hid hLk; clear hLk
      have HOWN := Lib.hid hown; clear hown
      have HBEL := Lib.hid hbel; clear hbel
      have HBLK := Lib.hid hblk; clear hblk
      have HJ := Lib.hid hj; clear hj
      go_wp2_with fail
      refine (HBLK.out _ HLk.out).mono ?_
      rintro e w1 ⟨rfl, hL1, hK1⟩
      have hown1 := Kb.owns HOWN.out hK1 (owns_ne HOWN.out)
      have hbel1 := Below.kb HBEL.out hK1 (by omega)
      have hb1 : b < w1.heap.size := hL1.facts.2.2.2.2.2.2.1
      have HOWN1 := Lib.hid hown1; clear hown1
      have HBEL1 := Lib.hid hbel1; clear hbel1 hK1
      rcases hmo : moreAt s j with _ | _
      · have hend := toksGo_end s k acc (by rw [HJ.out]; exact hmo)
        rw [HJ.out] at hend
        have HEND := Lib.hid hend; clear hend hmo
        obtain ⟨c0, c1, c2, c3, c4, c5, hbq, f0, f1, f2, f3, f4, f5⟩ := hL1.facts
        have HL1 := Lib.hid hL1; clear hL1
        go_wp2_with (at_builtin; refine wpList_append_own _ rfl _ _ 83 rfl (b + 1) 140 i0 (.agg #[.int .i64 0, .string ⟨#[]⟩, .int .i64 0, .int .i64 0]) 4 40 Tryz.underlying83 hi hz0 hz1 hz2 rfl (by decide) _ _ _ rfl (owns_below' HOWN1.out (by (repeat (first | exact Below.refl _ _ | refine Below.drew ?_ | (refine below_gw' ?_ (by first | omega | (simp [go_sem]; done) | (simp [go_sem]; omega)) _) | (refine Below.alloc ?_ (by first | omega | (simp [go_sem]; done) | (simp [go_sem]; omega)) _) | (refine Below.setCell ?_ (by first | omega | (simp [go_sem]; done) | (simp [go_sem]; omega)) _))))) _ 1 1 [.int .i64 0, .string ⟨#[]⟩, .int .i64 0, .int .i64 j] rfl rfl ?c1 ?c2 ?c3 ?c4 ?c5 ?_)
        try case c1 =>
          intro q u hq
          rw [addr_add]
          match q, hq with
          | 0, hq => simp at hq; subst hq; simp [go_sem]
          | 1, hq => simp at hq; subst hq; simp [go_sem]
          | 2, hq => simp at hq; subst hq; simp [go_sem]
          | 3, hq => simp at hq; subst hq; simp [go_sem]
        case c2 => first | exact ⟨rfl, rfl, rfl, rfl⟩ | (intro u hu; simp at hu; rcases hu with rfl | rfl | rfl | rfl <;> rfl) | rfl
        case c3 => unfold maxLen; omega
        case c4 => omega
        case c5 => (first | omega | (simp [go_sem]; done) | (simp [go_sem]; omega))
        intro v' w3 hown' hgrow _
        have hb' : Below b w w3 := (HBEL1.out.trans (Below.mono (show Below w1.heap.size w1 _ by (repeat (first | exact Below.refl _ _ | refine Below.drew ?_ | (refine below_gw' ?_ (by first | omega | (simp [go_sem]; done) | (simp [go_sem]; omega)) _) | (refine Below.alloc ?_ (by first | omega | (simp [go_sem]; done) | (simp [go_sem]; omega)) _) | (refine Below.setCell ?_ (by first | omega | (simp [go_sem]; done) | (simp [go_sem]; omega)) _)))) (by omega))).grown hgrow (by simp [go_sem]; omega) (by
          intro q hq
          have := HOWN1.out.2
          rcases this with ⟨h, _⟩ | ⟨g, cap, cur, h, hg, _⟩
          · rw [h] at hq; cases hq
          · rw [h] at hq; cases hq; exact Nat.le_of_succ_le hg)
        have HOWN3 := Lib.hid hown'; clear hown'
        have HB' := Lib.hid hb'; clear hb' hgrow
        go_wp2_with fail
        go_ret2
        rw [← HK0.out, HEND.out]
        refine ⟨_, rfl, ?_, by rw [HBB.out]; exact HB'.out⟩
        have hrow := Row.of_owns HOWN3.out
        rw [tokc_one] at hrow
        rw [List.length_append]; exact hrow
      · have hjl := moreAt_lt hmo
        have hnx := fun w hL => next_any s j b t w hL (by omega) hs
        have hcase : (∃ e, nextP s j = .error e) ∨ ∃ t n, nextP s j = .ok (t, n) := by
          cases nextP s j with
          | error e => exact .inl ⟨e, rfl⟩
          | ok x => exact .inr ⟨x.1, x.2, rfl⟩
        rcases hcase with ⟨c, hn⟩ | ⟨⟨tk, tt, tn, ta⟩, n, hn⟩
        · have herr := toksGo_err s k acc c (by rw [HJ.out]; exact hmo) (by rw [HJ.out]; exact hn)
          have hc0 : (c != 0) = true := by rcases nextP_err s j c hn with rfl | rfl <;> rfl
          simp only [hn] at hnx
          have HERR := Lib.hid herr; clear herr hmo hn
          have HNX := Lib.hid hnx; clear hnx
          have HL1 := Lib.hid hL1; clear hL1
          go_wp2_with fail
          refine (HNX.out _ HL1.out).mono ?_
          rintro e w2 ⟨hK2, rfl⟩
          have hbel2 := Below.kb HBEL1.out hK2 (by omega)
          have HBEL2 := Lib.hid hbel2; clear hbel2 hK2
          go_wp2_with fail
          go_ret2
          rw [← HK0.out, HERR.out]
          exact ⟨rfl, by rw [HBB.out]; exact HBEL2.out⟩
        · have hstp := toksGo_step s k acc ⟨tk, tt, tn, ta⟩ n (by rw [HJ.out]; exact hmo) (by rw [HJ.out]; exact hn)
          have hbd := nextP_bd s j hjl _ n hn
          simp only [hn] at hnx
          have HSTP := Lib.hid hstp; clear hstp hmo hn
          have HNX := Lib.hid hnx; clear hnx
          obtain ⟨hn1, hn2, hn3, hn4, hn5⟩ := hbd
          have HL1 := Lib.hid hL1; clear hL1
          go_wp2_with fail
          refine (HNX.out _ HL1.out).mono ?_
          rintro e w2 ⟨hK2, rfl, hL2⟩
          have hown2 := Kb.owns HOWN1.out hK2 (owns_ne HOWN1.out)
          have hbel2 := Below.kb HBEL1.out hK2 (by omega)
          clear HOWN1 HBEL1 HL1 hb1 hK2
          obtain ⟨c0, c1, c2, c3, c4, c5, hb1, f0, f1, f2, f3, f4, f5⟩ := hL2.facts
          simp only at hL2 c2 c3 c4 c5
          have HOWN1 := Lib.hid hown2; clear hown2
          have HBEL1 := Lib.hid hbel2; clear hbel2
          have HL2 := Lib.hid hL2; clear hL2
          go_wp2_with (at_builtin; refine wpList_append_own _ rfl _ _ 83 rfl (b + 1) 140 i0 (.agg #[.int .i64 0, .string ⟨#[]⟩, .int .i64 0, .int .i64 0]) 4 40 Tryz.underlying83 hi hz0 hz1 hz2 rfl (by decide) _ _ _ rfl (owns_below' HOWN1.out (by (repeat (first | exact Below.refl _ _ | refine Below.drew ?_ | (refine below_gw' ?_ (by first | omega | (simp [go_sem]; done) | (simp [go_sem]; omega)) _) | (refine Below.alloc ?_ (by first | omega | (simp [go_sem]; done) | (simp [go_sem]; omega)) _) | (refine Below.setCell ?_ (by first | omega | (simp [go_sem]; done) | (simp [go_sem]; omega)) _))))) _ 1 1 [.int .i64 tk, .string tt, .int .i64 tn, .int .i64 ta] rfl rfl ?d1 ?d2 ?d3 ?d4 ?d5 ?_)
          try case d1 =>
            intro q u hq
            rw [addr_add]
            match q, hq with
            | 0, hq => simp at hq; subst hq; simp [go_sem]
            | 1, hq => simp at hq; subst hq; simp [go_sem]
            | 2, hq => simp at hq; subst hq; simp [go_sem]
            | 3, hq => simp at hq; subst hq; simp [go_sem]
          case d2 => first | exact ⟨rfl, rfl, rfl, rfl⟩ | (intro u hu; simp at hu; rcases hu with rfl | rfl | rfl | rfl <;> rfl) | rfl
          case d3 => unfold maxLen; omega
          case d4 => omega
          case d5 => (first | omega | (simp [go_sem]; done) | (simp [go_sem]; omega))
          intro v' w3 hown' hgrow _
          have hb' : Below b w w3 := (HBEL1.out.trans (Below.mono (show Below w2.heap.size w2 _ by (repeat (first | exact Below.refl _ _ | refine Below.drew ?_ | (refine below_gw' ?_ (by first | omega | (simp [go_sem]; done) | (simp [go_sem]; omega)) _) | (refine Below.alloc ?_ (by first | omega | (simp [go_sem]; done) | (simp [go_sem]; omega)) _) | (refine Below.setCell ?_ (by first | omega | (simp [go_sem]; done) | (simp [go_sem]; omega)) _)))) (by omega))).grown hgrow (by simp [go_sem]; omega) (by
            intro q hq
            have := HOWN1.out.2
            rcases this with ⟨h, _⟩ | ⟨g, cap, cur, h, hg, _⟩
            · rw [h] at hq; cases hq
            · rw [h] at hq; cases hq; exact Nat.le_of_succ_le hg)
          have hL3 := LexAt.grown (HL2.out.alloc _) hgrow (owns_ne HOWN1.out)
          have HOWN3 := Lib.hid hown'; clear hown'
          have HB' := Lib.hid hb'; clear hb' hgrow
          have HL3 := Lib.hid hL3; clear hL3
          go_wp2_with fail
          go_roundw
          case rel => exact ⟨n, acc ++ [⟨tk, tt, tn, ta⟩], _, by omega, by rw [List.length_append, List.length_singleton]; omega, HL3.out, by rw [← tokc_one, List.length_append]; exact HOWN3.out, HB'.out, Lib.hid (by rw [← HSTP.out]; exact HK0.out)⟩
          case measure => rw [HLk.out.offAt, HL3.out.offAt]; omega
end Go.Proofs.YtnjpfhihbjihbaaGreatDoor

/- Maps with string keys: laws for a walk; ranging over one. -/
namespace Go.Proofs.YtnjpfhihbjihbaaGreatDoor
open Go.RowKit Go.Sort

open Go.ChangeMaps
theorem Kb.setBlock {b : Nat} {u w : World} (h : Kb b u w) (o : Obj) : Kb b u (setBlock w b o) :=
  ⟨h.os, h.tape, h.output, by rw [setBlock_size]; exact h.size, fun k hk hne => (setBlock_other w b o k hne).trans (h.block k hk hne)⟩
/-- A store into a map with string keys. -/
theorem wpList_sput {P : Program} {w : World} {ops : Array Oper} {rest : List Oper} {o : Oper} {a : Act} {Q : Exit → Act → World → Prop}
    (hg : o.guard = none) (m x v : Operand) (T : TypeId) (hop : o.op = Op.mapUpdate T m x v) (K E : TypeId) (ht : P.underlying T = some (.map K E)) (hk : P.underlying K = some .string) (b : Nat) (l : List (ByteArray × Value)) (s : ByteArray) (val : Value)
    (hm : a.eval m = .map (some b)) (hx : a.eval x = .string s) (hv : a.eval v = val) (h : SMap w b l)
    (hK : ∀ w', SMap w' b (sput l s val) → Kb b w w' → w'.heap.size = w.heap.size → wpList P ops Q rest (a.put o.dst undef) w') :
    wpList P ops Q (o :: rest) a w := by
  refine wpList_plain hg fun K' hK' => ?_
  obtain ⟨ob, hrun, hs⟩ := run_sput ht hk h s val
  unfold Oper.wp
  simp [execOp, hop, hm, hx, hv, hrun, Result.andThen]
  exact hK' _ _ (hK _ hs ((Kb.refl b w).setBlock ob) (by unfold setBlock; simp))
/-- A look-up in a map with string keys. -/
theorem wpList_sget {P : Program} {w : World} {ops : Array Oper} {rest : List Oper} {o : Oper} {a : Act} {Q : Exit → Act → World → Prop}
    (hg : o.guard = none) (m x : Operand) (T : TypeId) (ok : Bool) (hop : o.op = Op.lookup T m x ok) (K E : TypeId) (ht : P.underlying T = some (.map K E)) (hk : P.underlying K = some .string) {z : Value} (hz : ∀ w, (zeroValue E).run P w = .ok z w) (b : Nat) (l : List (ByteArray × Value)) (s : ByteArray)
    (hm : a.eval m = .map (some b)) (hx : a.eval x = .string s) (h : SMap w b l)
    (hK : wpList P ops Q rest (a.put o.dst (if ok then .tuple #[(sget l s).getD z, .bool (sget l s).isSome] else (sget l s).getD z)) w) :
    wpList P ops Q (o :: rest) a w := by
  refine wpList_plain hg fun K' hK' => ?_
  have hrun := run_sget ht hk hz h s ok
  unfold Oper.wp
  simp only [execOp, hop, hm, hx, hrun, Result.andThen, Sem.run_bind, Sem.run_pure]
  exact hK' _ _ hK
/-- The pairs of a map that a loop has still to meet. r: the iterator's block. -/
def SRng (w : World) (b r : Nat) (l left : List (ByteArray × Value)) : Prop :=
  ∃ es c since seen c0, w.heap[b]? = some (.map es c) ∧ es.toList.map ekv = l.map (fun x => (Value.string x.1, x.2)) ∧ MapKept.Stamped es c ∧
    w.heap[r]? = some (.mapIter (some b) since seen c0) ∧ (∀ x ∈ es.toList, x.born < since) ∧ since ≤ c0 ∧ since ≤ c ∧ (leftOf es seen).toList.map ekv = left.map (fun x => (Value.string x.1, x.2))
theorem SRng.block {w w' : World} {b r : Nat} {l left : List (ByteArray × Value)} (h : SRng w b r l left) (hb : w'.heap[b]? = w.heap[b]?) (hr : w'.heap[r]? = w.heap[r]?) : SRng w' b r l left := by
  obtain ⟨es, c, since, seen, c0, h1, h2, h3, h4, h5⟩ := h
  exact ⟨es, c, since, seen, c0, hb.trans h1, h2, h3, hr.trans h4, h5⟩
theorem SRng.smap {w : World} {b r : Nat} {l left : List (ByteArray × Value)} (h : SRng w b r l left) : SMap w b l := by
  obtain ⟨es, c, since, seen, c0, h1, h2, h3, h4, h5⟩ := h
  exact ⟨es, c, h1, h2, h3⟩
theorem SRng.lt {w : World} {b r : Nat} {l left : List (ByteArray × Value)} (h : SRng w b r l left) : r < w.heap.size := by
  obtain ⟨es, c, since, seen, c0, h1, h2, h3, h4, h5⟩ := h
  exact (Array.getElem?_eq_some_iff.1 h4).1
theorem SRng.ne {w : World} {b r : Nat} {l left : List (ByteArray × Value)} (h : SRng w b r l left) : b ≠ r := by
  obtain ⟨es, c, since, seen, c0, h1, h2, h3, h4, h5⟩ := h
  intro e; rw [e, h4] at h1; cases h1
theorem run_srange {P : Program} {T K E : TypeId} (ht : P.underlying T = some (.map K E)) {w : World} {b : Nat} {l : List (ByteArray × Value)} (h : SMap w b l) :
    ∃ o, (Instr.range T (.map (some b))).run P w = .ok (.pointer (some ⟨w.heap.size, 0, none⟩)) (w.alloc o) ∧ SRng (w.alloc o) b w.heap.size l l := by
  have hlt := h.lt
  obtain ⟨es, c, hb, he, hs⟩ := h
  refine ⟨_, run_range_map w T K E b es c ht hb, es, c, c, #[], c, ((Below.refl _ w).alloc (Nat.le_refl _) _).block b hlt ▸ hb, he, hs, ?_, hs.1, Nat.le_refl _, Nat.le_refl _, ?_⟩
  · show (w.heap.push _)[w.heap.size]? = _; simp
  · rw [← he]; simp only [leftOf, Array.toList_filter]; rw [List.filter_eq_self.2 (by simp)]
theorem leftOf_push (es : Array MapEntry) (seen : Array Nat) (e : MapEntry) (hn : (es.toList.map (·.born)).Nodup) (he : e ∈ (leftOf es seen).toList) :
    ∃ l1 l2, (leftOf es seen).toList = l1 ++ e :: l2 ∧ (leftOf es (seen.push e.born)).toList = l1 ++ l2 := by
  obtain ⟨l1, l2, h⟩ := List.append_of_mem he
  refine ⟨l1, l2, h, ?_⟩
  have h2 : (leftOf es (seen.push e.born)).toList = (leftOf es seen).toList.filter fun x => !(x.born == e.born) := by
    unfold leftOf
    simp only [Array.toList_filter, List.filter_filter]
    apply List.filter_congr
    intro x _
    rw [Bool.eq_iff_iff]
    simp [and_comm]
  have hn2 : ((leftOf es seen).toList.map (·.born)).Nodup := by
    unfold leftOf
    rw [Array.toList_filter]
    exact hn.sublist (List.Sublist.map _ List.filter_sublist)
  rw [h2, h] at *
  rw [List.map_append, List.map_cons, List.nodup_append] at hn2
  obtain ⟨_, n2, n3⟩ := hn2
  rw [List.nodup_cons] at n2
  rw [List.filter_append, List.filter_cons]
  simp only [beq_self_eq_true, Bool.not_true, Bool.false_eq_true, if_false]
  congr 1
  · rw [List.filter_eq_self]
    intro x hx
    simp only [Bool.not_eq_true', beq_eq_false_iff_ne]
    intro e2
    exact n3 x.born (List.mem_map_of_mem hx) e.born List.mem_cons_self e2
  · rw [List.filter_eq_self]
    intro x hx
    simp only [Bool.not_eq_true', beq_eq_false_iff_ne]
    intro e2
    exact n2.1 (e2 ▸ List.mem_map_of_mem hx)
/-- A step of a loop over a map: nothing is left, or one of the pairs that are left comes. -/
theorem run_snext {P : Program} {w : World} {b r : Nat} {l left : List (ByteArray × Value)} (h : SRng w b r l left) (ty : TypeId) :
    (left = [] ∧ (Instr.next (.pointer (some ⟨r, 0, none⟩)) false ty).run P w = .ok (.tuple #[.bool false]) w) ∨
    ∃ l1 x l2 w1, left = l1 ++ x :: l2 ∧ (Instr.next (.pointer (some ⟨r, 0, none⟩)) false ty).run P w = .ok (.tuple #[.bool true, .string x.1, x.2]) w1 ∧ SRng w1 b r l (l1 ++ l2) ∧ Kb r w w1 ∧ w1.heap.size = w.heap.size ∧ (Instr.entry (.pointer (some ⟨r, 0, none⟩))).run P w1 = .ok (.tuple #[.string x.1, x.2]) w1 := by
  have hrl := h.lt
  have hne := h.ne
  obtain ⟨es, c, since, seen, c0, h1, h2, h3, h4, h5, h6, h8, h7⟩ := h
  rcases run_next_at (P := P) w ty r b since c0 seen es c h4 h1 h5 h6 with ⟨h0, hrun⟩ | ⟨e, he, w1, hw1, hrun⟩
  · left
    refine ⟨?_, hrun⟩
    have : (leftOf es seen).toList = [] := by simpa using h0
    rw [this] at h7
    simpa using h7.symm
  · right
    obtain ⟨m1, m2, e1, e2⟩ := leftOf_push es seen e h3.2.1 he
    rw [e1] at h7
    rw [List.map_append, List.map_cons] at h7
    obtain ⟨l1, l2', rfl, f1, f2⟩ := List.append_eq_map_iff.1 h7
    obtain ⟨x, l2, rfl, f3, f4⟩ := List.map_eq_cons_iff.1 f2
    simp only [Prod.mk.injEq] at f3
    obtain ⟨ek, ev, eb⟩ := e
    simp only at f3
    obtain ⟨f5, f6⟩ := f3
    subst f5 f6
    have hk0 : Kb r w w1 := by rcases hw1 with rfl | rfl; exact Kb.refl _ _; exact (Kb.refl _ _).drew
    have hsz : w1.heap.size = w.heap.size := by rcases hw1 with rfl | rfl <;> rfl
    have hk1 := hk0.setBlock (.mapIter (some b) since (seen.push eb) c)
    have hb1 : (setBlock w1 r (.mapIter (some b) since (seen.push eb) c)).heap[b]? = some (.map es c) := by
      rw [hk1.block b (Array.getElem?_eq_some_iff.1 h1).1 hne]; exact h1
    have hr1 : (setBlock w1 r (.mapIter (some b) since (seen.push eb) c)).heap[r]? = some (.mapIter (some b) since (seen.push eb) c) := setBlock_at _ _ _ (by omega)
    refine ⟨l1, x, l2, _, rfl, hrun, ⟨es, c, since, seen.push eb, c, hb1, h2, h3, hr1, h5, h8, h8, ?_⟩, hk1, ?_, ?_⟩
    · rw [e2, List.map_append, List.map_append, f1, f4]
    · unfold setBlock; simp [hsz]
    · refine run_entry_at _ r b since seen es c ⟨.string x.1, x.2, eb⟩ hr1 hb1 ?_ h3.2.1
      have := he; unfold leftOf at this; rw [Array.toList_filter] at this; exact (List.mem_filter.1 this).1
end Go.Proofs.YtnjpfhihbjihbaaGreatDoor
