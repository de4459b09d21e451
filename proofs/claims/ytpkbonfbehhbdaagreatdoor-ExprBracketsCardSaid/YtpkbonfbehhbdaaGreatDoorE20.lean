/- Joined texts: LexF, TokRes, LexG, TokSub. -/
import Derived.Test.YtpkbonfbehhbdaaGreatDoorE02
import Derived.Test.YtpkbonfbehhbdaaGreatDoorE03
import Derived.Test.YtpkbonfbehhbdaaGreatDoorE06
import Derived.Test.YtpkbonfbehhbdaaGreatDoorE18
import Derived.Test.YtpkbonfbehhbdaaGreatDoorE19
/- The program's lexer: the next token. (Written by wip/gen_lextoks.py.) -/
namespace Go.Proofs.YtpkbonfbehhbdaaGreatDoor
open Go.RowKit Go.Sort

def rdP (k : Nat) (s : ByteArray) (i : Nat) : Option (Except Int (Tok × Nat)) := match k with | 0 => wordP s i | 1 => numberP s i | 2 => textP s i | _ => signP s i
def rdRest (s : ByteArray) (i : Nat) : Nat → Option (Except Int (Tok × Nat))
  | 0 => none
  | k + 1 => (rdP (3 - k) s i).or (rdRest s i k)
theorem rdRest_eq (s : ByteArray) (i : Nat) : rdRest s i 4 = some (nextP s i) := by
  rw [nextP_eq]
  show (wordP s i).or ((numberP s i).or ((textP s i).or ((signP s i).or none))) = _
  rw [Option.or_none]
theorem nextP_off (s : ByteArray) (i : Nat) (t : Tok) (n : Nat) (h : nextP s i = .ok (t, n)) : t.off = i := by
  unfold nextP at h
  split at h
  · cases h; rfl
  · split at h
    · split at h
      · cases h; rfl
      · cases h
    · split at h
      · split at h
        · cases h; rfl
        · cases h
      · split at h
        · cases h
        · cases h; rfl
theorem index4 (a0 a1 a2 a3 : Value) (w : World) :
    (Instr.index 150 (.agg #[a0, a1, a2, a3]) (.int .i64 0)).run Tryz.prog w = .ok a0 w ∧ (Instr.index 150 (.agg #[a0, a1, a2, a3]) (.int .i64 1)).run Tryz.prog w = .ok a1 w ∧
    (Instr.index 150 (.agg #[a0, a1, a2, a3]) (.int .i64 2)).run Tryz.prog w = .ok a2 w ∧ (Instr.index 150 (.agg #[a0, a1, a2, a3]) (.int .i64 3)).run Tryz.prog w = .ok a3 w := by
  refine ⟨?_, ?_, ?_, ?_⟩ <;> (change _ = _; kernel_rfl)
/-- What next leaves. -/
def NextRes (x : Except Int (Tok × Nat)) (s : ByteArray) (b : Nat) (w : World) (e : Ending) (w' : World) : Prop :=
  Kb b w w' ∧ match x with
  | .error c => e = .returned (.int .i64 c)
  | .ok y => e = .returned (.int .i64 0) ∧ LexAt w' b s y.2 y.1

set_option maxHeartbeats 8000000 in
set_option maxRecDepth 100000 in
theorem next_any (s : ByteArray) (i b : Nat) (t : Tok) (w : World) (hL : LexAt w b s i t) (hi : i ≤ s.size) (hs : s.size ≤ 1000000) :
    Calls Tryz.prog 76 #[.pointer (some ⟨b, 0, none⟩)] w (NextRes (nextP s i) s b w) := by
  have hmf : ∀ (fn : Fn) (first cap : Array Value) (w : World), (Instr.makeFunc fn first cap).run Tryz.prog w = .ok (.func fn first cap) w := fun _ _ _ _ => rfl
  obtain ⟨Q, hQ⟩ : ∃ Q, nextP s i = Q := ⟨_, rfl⟩
  have hoff : ∀ y, Q = .ok y → y.1.off = i := fun y hy => nextP_off s i y.1 y.2 (by rw [hQ, hy])
  have hR := rdRest_eq s i
  rw [hQ] at hR ⊢
  have HOFF := Lib.hid hoff; clear hoff hQ
  have HR := Lib.hid hR; clear hR
  have hi0 : (0 : Int) ≤ (i : Int) := by omega
  obtain ⟨c0, c1, c2, c3, c4, c5, hb, f0, f1, f2, f3, f4, f5⟩ := hL.facts
  have HL := Lib.hid hL; clear hL
  go_enter Tryz.func76, Tryz.ntmps76
  go_wp2_with fail
  clear c0 c1 c2 c3 c4 c5 hb f0 f1 f2 f3 f4 f5
  go_loopw [5, 6, 7, 22] (fun _ _ _ v wr => ∃ k : Nat, k ≤ 3 ∧ v = .int .i64 k ∧ LexAt wr b s i t ∧ Kb b w wr ∧ Hid (rdRest s i (4 - k) = some Q)) (fun _ _ _ v _ => 4 - (intOf v).toNat)
  case atStart => exact ⟨0, by omega, rfl, HL.out, Kb.refl _ _, HR⟩
  case round =>
    obtain ⟨k, hk, rfl, hLk, hKk, HK0⟩ := hrel
    have HLk := Lib.hid hLk; clear hLk
    have HKk := Lib.hid hKk; clear hKk
    have hcase : k = 0 ∨ k = 1 ∨ k = 2 ∨ k = 3 := by omega
    rcases hcase with rfl | rfl | rfl | rfl
    · have hix := fun (a0 a1 a2 a3 : Value) (w : World) => (index4 a0 a1 a2 a3 w).1
      have hrd := word_any s i b t wr HLk.out hi hs
      have hst : rdRest s i (4 - 0) = (wordP s i).or (rdRest s i (4 - 1)) := rfl
      rcases hx : wordP s i with _ | x
      · rw [hx] at hrd hst
        have HRD := Lib.hid hrd; clear hrd
        have HST := Lib.hid hst; clear hst hx
        go_wp2_with fail
        refine HRD.out.mono ?_
        rintro e w1 ⟨hk1, rfl, hL1⟩
        have HL1 := Lib.hid hL1; clear hL1
        have HK1 := Lib.hid (HKk.out.trans hk1); clear hk1
        go_wp2_with fail
        go_roundw
        case rel => exact ⟨1, by omega, by go_num, HL1.out, HK1.out, Lib.hid (by rw [← HK0.out, HST.out]; rfl)⟩
        case measure => simp [intOf]
      · rw [hx] at hrd hst
        have hQx : x = Q := by
          have h := HK0.out
          rw [hst] at h
          exact Option.some.inj h
        subst hQx
        have HRD := Lib.hid hrd; clear hrd
        clear hst hx
        rcases x with c | ⟨u, n⟩
        · go_wp2_with fail
          refine HRD.out.mono ?_
          rintro e w1 ⟨hk1, rfl, j, u, hj, hL1⟩
          obtain ⟨c0, c1, c2, c3, c4, c5, hb, f0, f1, f2, f3, f4, f5⟩ := hL1.facts
          have HK := Lib.hid (HKk.out.trans hk1); clear hk1 hL1
          go_wp2_with fail
          go_ret
          exact ⟨by (with_reducible repeat (first | refine Kb.gw ?_ _ | refine Kb.setCell ?_ _ _ | refine Kb.alloc ?_ _ | refine Kb.drew ?_ | exact Kb.refl _ _ | exact HK.out)), rfl⟩
        · go_wp2_with fail
          refine HRD.out.mono ?_
          rintro e w1 ⟨hk1, rfl, hL1⟩
          obtain ⟨c0, c1, c2, c3, c4, c5, hb, f0, f1, f2, f3, f4, f5⟩ := hL1.facts
          have HL1 := Lib.hid hL1; clear hL1
          have HK := Lib.hid (HKk.out.trans hk1); clear hk1
          have hof := HOFF.out _ rfl
          have HOF := Lib.hid hof; clear hof
          go_wp2_with fail
          go_ret
          refine ⟨by (with_reducible repeat (first | refine Kb.gw ?_ _ | refine Kb.setCell ?_ _ _ | refine Kb.alloc ?_ _ | refine Kb.drew ?_ | exact Kb.refl _ _ | exact HK.out)), rfl, ?_⟩
          have HL := HL1
          refine LexAt.cast (by (with_reducible repeat (first | apply LexAt.gw | apply LexAt.at | apply LexAt.kind | apply LexAt.text | apply LexAt.n | apply LexAt.off | apply LexAt.alloc | apply LexAt.drew | exact HL.out))) ?_ ?_
          · rfl
          · obtain ⟨k1, k2, k3, k4⟩ := u
            have h := HOF.out
            simp only at h
            subst h
            rfl
    · have hix := fun (a0 a1 a2 a3 : Value) (w : World) => (index4 a0 a1 a2 a3 w).2.1
      have hrd := number_any s i b t wr HLk.out hi hs
      have hst : rdRest s i (4 - 1) = (numberP s i).or (rdRest s i (4 - 2)) := rfl
      rcases hx : numberP s i with _ | x
      · rw [hx] at hrd hst
        have HRD := Lib.hid hrd; clear hrd
        have HST := Lib.hid hst; clear hst hx
        go_wp2_with fail
        refine HRD.out.mono ?_
        rintro e w1 ⟨hk1, rfl, hL1⟩
        have HL1 := Lib.hid hL1; clear hL1
        have HK1 := Lib.hid (HKk.out.trans hk1); clear hk1
        go_wp2_with fail
        go_roundw
        case rel => exact ⟨2, by omega, by go_num, HL1.out, HK1.out, Lib.hid (by rw [← HK0.out, HST.out]; rfl)⟩
        case measure => simp [intOf]
      · rw [hx] at hrd hst
        have hQx : x = Q := by
          have h := HK0.out
          rw [hst] at h
          exact Option.some.inj h
        subst hQx
        have HRD := Lib.hid hrd; clear hrd
        clear hst hx
        rcases x with c | ⟨u, n⟩
        · go_wp2_with fail
          refine HRD.out.mono ?_
          rintro e w1 ⟨hk1, rfl, j, u, hj, hL1⟩
          obtain ⟨c0, c1, c2, c3, c4, c5, hb, f0, f1, f2, f3, f4, f5⟩ := hL1.facts
          have HK := Lib.hid (HKk.out.trans hk1); clear hk1 hL1
          go_wp2_with fail
          go_ret
          exact ⟨by (with_reducible repeat (first | refine Kb.gw ?_ _ | refine Kb.setCell ?_ _ _ | refine Kb.alloc ?_ _ | refine Kb.drew ?_ | exact Kb.refl _ _ | exact HK.out)), rfl⟩
        · go_wp2_with fail
          refine HRD.out.mono ?_
          rintro e w1 ⟨hk1, rfl, hL1⟩
          obtain ⟨c0, c1, c2, c3, c4, c5, hb, f0, f1, f2, f3, f4, f5⟩ := hL1.facts
          have HL1 := Lib.hid hL1; clear hL1
          have HK := Lib.hid (HKk.out.trans hk1); clear hk1
          have hof := HOFF.out _ rfl
          have HOF := Lib.hid hof; clear hof
          go_wp2_with fail
          go_ret
          refine ⟨by (with_reducible repeat (first | refine Kb.gw ?_ _ | refine Kb.setCell ?_ _ _ | refine Kb.alloc ?_ _ | refine Kb.drew ?_ | exact Kb.refl _ _ | exact HK.out)), rfl, ?_⟩
          have HL := HL1
          refine LexAt.cast (by (with_reducible repeat (first | apply LexAt.gw | apply LexAt.at | apply LexAt.kind | apply LexAt.text | apply LexAt.n | apply LexAt.off | apply LexAt.alloc | apply LexAt.drew | exact HL.out))) ?_ ?_
          · rfl
          · obtain ⟨k1, k2, k3, k4⟩ := u
            have h := HOF.out
            simp only at h
            subst h
            rfl
    · have hix := fun (a0 a1 a2 a3 : Value) (w : World) => (index4 a0 a1 a2 a3 w).2.2.1
      have hrd := text_any s i b t wr HLk.out hi hs
      have hst : rdRest s i (4 - 2) = (textP s i).or (rdRest s i (4 - 3)) := rfl
      rcases hx : textP s i with _ | x
      · rw [hx] at hrd hst
        have HRD := Lib.hid hrd; clear hrd
        have HST := Lib.hid hst; clear hst hx
        go_wp2_with fail
        refine HRD.out.mono ?_
        rintro e w1 ⟨hk1, rfl, hL1⟩
        have HL1 := Lib.hid hL1; clear hL1
        have HK1 := Lib.hid (HKk.out.trans hk1); clear hk1
        go_wp2_with fail
        go_roundw
        case rel => exact ⟨3, by omega, by go_num, HL1.out, HK1.out, Lib.hid (by rw [← HK0.out, HST.out]; rfl)⟩
        case measure => simp [intOf]
      · rw [hx] at hrd hst
        have hQx : x = Q := by
          have h := HK0.out
          rw [hst] at h
          exact Option.some.inj h
        subst hQx
        have HRD := Lib.hid hrd; clear hrd
        clear hst hx
        rcases x with c | ⟨u, n⟩
        · go_wp2_with fail
          refine HRD.out.mono ?_
          rintro e w1 ⟨hk1, rfl, j, u, hj, hL1⟩
          obtain ⟨c0, c1, c2, c3, c4, c5, hb, f0, f1, f2, f3, f4, f5⟩ := hL1.facts
          have HK := Lib.hid (HKk.out.trans hk1); clear hk1 hL1
          go_wp2_with fail
          go_ret
          exact ⟨by (with_reducible repeat (first | refine Kb.gw ?_ _ | refine Kb.setCell ?_ _ _ | refine Kb.alloc ?_ _ | refine Kb.drew ?_ | exact Kb.refl _ _ | exact HK.out)), rfl⟩
        · go_wp2_with fail
          refine HRD.out.mono ?_
          rintro e w1 ⟨hk1, rfl, hL1⟩
          obtain ⟨c0, c1, c2, c3, c4, c5, hb, f0, f1, f2, f3, f4, f5⟩ := hL1.facts
          have HL1 := Lib.hid hL1; clear hL1
          have HK := Lib.hid (HKk.out.trans hk1); clear hk1
          have hof := HOFF.out _ rfl
          have HOF := Lib.hid hof; clear hof
          go_wp2_with fail
          go_ret
          refine ⟨by (with_reducible repeat (first | refine Kb.gw ?_ _ | refine Kb.setCell ?_ _ _ | refine Kb.alloc ?_ _ | refine Kb.drew ?_ | exact Kb.refl _ _ | exact HK.out)), rfl, ?_⟩
          have HL := HL1
          refine LexAt.cast (by (with_reducible repeat (first | apply LexAt.gw | apply LexAt.at | apply LexAt.kind | apply LexAt.text | apply LexAt.n | apply LexAt.off | apply LexAt.alloc | apply LexAt.drew | exact HL.out))) ?_ ?_
          · rfl
          · obtain ⟨k1, k2, k3, k4⟩ := u
            have h := HOF.out
            simp only at h
            subst h
            rfl
    · have hix := fun (a0 a1 a2 a3 : Value) (w : World) => (index4 a0 a1 a2 a3 w).2.2.2
      have hrd := sign_any s i b t wr HLk.out hi hs
      have hst : rdRest s i (4 - 3) = (signP s i).or (rdRest s i (4 - 4)) := rfl
      rcases hx : signP s i with _ | x
      · exfalso; unfold signP at hx; cases hx
      · rw [hx] at hrd hst
        have hQx : x = Q := by
          have h := HK0.out
          rw [hst] at h
          exact Option.some.inj h
        subst hQx
        have HRD := Lib.hid hrd; clear hrd
        clear hst hx
        rcases x with c | ⟨u, n⟩
        · go_wp2_with fail
          refine HRD.out.mono ?_
          rintro e w1 ⟨hk1, rfl, j, u, hj, hL1⟩
          obtain ⟨c0, c1, c2, c3, c4, c5, hb, f0, f1, f2, f3, f4, f5⟩ := hL1.facts
          have HK := Lib.hid (HKk.out.trans hk1); clear hk1 hL1
          go_wp2_with fail
          go_ret
          exact ⟨by (with_reducible repeat (first | refine Kb.gw ?_ _ | refine Kb.setCell ?_ _ _ | refine Kb.alloc ?_ _ | refine Kb.drew ?_ | exact Kb.refl _ _ | exact HK.out)), rfl⟩
        · go_wp2_with fail
          refine HRD.out.mono ?_
          rintro e w1 ⟨hk1, rfl, hL1⟩
          obtain ⟨c0, c1, c2, c3, c4, c5, hb, f0, f1, f2, f3, f4, f5⟩ := hL1.facts
          have HL1 := Lib.hid hL1; clear hL1
          have HK := Lib.hid (HKk.out.trans hk1); clear hk1
          have hof := HOFF.out _ rfl
          have HOF := Lib.hid hof; clear hof
          go_wp2_with fail
          go_ret
          refine ⟨by (with_reducible repeat (first | refine Kb.gw ?_ _ | refine Kb.setCell ?_ _ _ | refine Kb.alloc ?_ _ | refine Kb.drew ?_ | exact Kb.refl _ _ | exact HK.out)), rfl, ?_⟩
          have HL := HL1
          refine LexAt.cast (by (with_reducible repeat (first | apply LexAt.gw | apply LexAt.at | apply LexAt.kind | apply LexAt.text | apply LexAt.n | apply LexAt.off | apply LexAt.alloc | apply LexAt.drew | exact HL.out))) ?_ ?_
          · rfl
          · obtain ⟨k1, k2, k3, k4⟩ := u
            have h := HOF.out
            simp only at h
            subst h
            rfl
end Go.Proofs.YtpkbonfbehhbdaaGreatDoor

/- What Tokens hands back. -/
namespace Go.Proofs.YtpkbonfbehhbdaaGreatDoor
open Go.RowKit Go.Sort

/-- What Tokens hands back. -/
def TokRes (x : Except Int (List Tok)) (w : World) (e : Ending) (w' : World) : Prop :=
  match x with
  | .ok l => ∃ v, e = .returned (.tuple #[v, .int .i64 0]) ∧ Row w' v l.length (tokc l) ∧ Below w.heap.size w w'
  | .error c => e = .returned (.tuple #[.slice none 0 0, .int .i64 c]) ∧ Below w.heap.size w w'
theorem tokc_one (l : List Tok) (k : Int) (t : ByteArray) (n : Int) (a : Int) : tokc l ++ [.int .i64 k, .string t, .int .i64 n, .int .i64 a] = tokc (l ++ [⟨k, t, n, a⟩]) := by rw [tokc_append]; rfl

theorem alloc_at' (w : World) (o : Obj) : (w.alloc o).heap[w.heap.size]? = some o := by show (w.heap.push o)[w.heap.size]? = _; simp
end Go.Proofs.YtpkbonfbehhbdaaGreatDoor

/- The program's tokens of a line. (Written by wip/gen_lextoks.py.) -/
namespace Go.Proofs.YtpkbonfbehhbdaaGreatDoor
open Go.RowKit Go.Sort

theorem infoTokL : (Tryz.prog.info? 73).map (fun i => (i.zero, i.size, i.bytes)) = some (some (.agg #[.int .i64 0, .string ⟨#[]⟩, .int .i64 0, .int .i64 0]), 4, 40) := by kernel_rfl
theorem Below.kb {b : Nat} {u v w : World} (h : Below b u v) (k : Kb b v w) (hs : b ≤ v.heap.size) : Below b u w :=
  ⟨k.os.trans h.os, k.tape.trans h.tape, k.output.trans h.output, Nat.le_trans h.size k.size, fun i hi => (k.block i (by omega) (by omega)).trans (h.block i hi)⟩
theorem owns_ne {w : World} {b : Nat} {e : TypeId} {size : Nat} {v : Value} {n : Nat} {xs : List Value} (h : w.ownsRow (b + 1) e size v n xs) : v.ownBlock ≠ some b := by
  rcases h.2 with ⟨hv, _⟩ | ⟨g, cap, cur, hv, hg, _⟩
  · rw [hv]; simp [Value.ownBlock]
  · rw [hv]; simp only [Value.ownBlock, ne_eq, Option.some.injEq]; omega
theorem LexAt.grown {w w' : World} {b : Nat} {s : ByteArray} {i : Int} {t : Tok} {row : Option Nat} (h : LexAt w b s i t) (hg : w.grownBy w' row) (hne : row ≠ some b) : LexAt w' b s i t := by
  unfold LexAt at *
  rw [hg.block b (lt_of_block h) (fun e => hne e.symm)]
  exact h

set_option maxHeartbeats 8000000 in
set_option maxRecDepth 100000 in
theorem toks_any (s : ByteArray) (w : World) : Calls Tryz.prog 43 #[.string s] w (TokRes (toksP s) w) := by
  obtain ⟨R, hR⟩ : ∃ R, toksP s = R := ⟨_, rfl⟩
  rw [hR]
  unfold toksP at hR
  by_cases hbig : 1024 < s.size
  · rw [if_pos hbig] at hR
    subst hR
    have hbig' : (1024 : Int) < (s.size : Int) := by omega
    go_enter Tryz.func43, Tryz.ntmps43
    go_wp2_with fail
    go_ret2
    exact ⟨rfl, Below.refl _ _⟩
  · rw [if_neg hbig] at hR
    have hbig' : ¬ (1024 : Int) < (s.size : Int) := by omega
    have HR := Lib.hid hR; clear hR
    have hs : s.size ≤ 1000000 := by omega
    obtain ⟨i0, hi, hz0, hz1, hz2⟩ := info_parts infoTokL
    go_enter Tryz.func43, Tryz.ntmps43
    go_wp2_with fail
    have hst : LexAt (w.alloc (.cells #[.string s, .int .i64 0, .int .i64 0, .string ⟨#[]⟩, .int .i64 0, .int .i64 0] 123)) w.heap.size s ((0 : Nat) : Int) ⟨0, ⟨#[]⟩, 0, 0⟩ := by
      unfold LexAt; exact alloc_at' _ _
    have hbl : Below w.heap.size w (w.alloc (.cells #[.string s, .int .i64 0, .int .i64 0, .string ⟨#[]⟩, .int .i64 0, .int .i64 0] 123)) := by (repeat (first | exact Below.refl _ _ | refine Below.drew ?_ | (refine below_gw' ?_ (by first | omega | (simp [go_sem]; done) | (simp [go_sem]; omega)) _) | (refine Below.alloc ?_ (by first | omega | (simp [go_sem]; done) | (simp [go_sem]; omega)) _) | (refine Below.setCell ?_ (by first | omega | (simp [go_sem]; done) | (simp [go_sem]; omega)) _)))
    have HST := Lib.hid hst; clear hst
    have HBL := Lib.hid hbl; clear hbl
    obtain ⟨b, hbb⟩ : ∃ b, w.heap.size = b := ⟨_, rfl⟩
    rw [hbb] at HST HBL ⊢
    have HBB := Lib.hid hbb; clear hbb
    go_loopw [5, 6] (fun v _ wr => ∃ (k : Nat) (acc : List Tok) (t : Tok), k ≤ s.size ∧ acc.length ≤ k ∧ LexAt wr b s k t ∧ wr.ownsRow (b + 1) 73 4 v acc.length (tokc acc) ∧ Below b w wr ∧ Hid (toksGo s k acc = R)) (fun _ _ wr => s.size - (offAt wr b).toNat)
    case atStart => exact ⟨0, [], _, Nat.zero_le _, Nat.le_refl _, HST.out, World.ownsRow_nil _ _ _ _, HBL.out, HR⟩
    case round =>
      obtain ⟨k, acc, t, hk, hac, hLk, hown, hbel, HK0⟩ := hrel
      have hblk := fun w hL => blanks_any s k b t w hL hk hs
      obtain ⟨j, hj⟩ : ∃ j, skipEnd s k = j := ⟨_, rfl⟩
      have hj1 := skipEnd_ge s k
      have hj2 := skipEnd_le s k hk
      rw [hj] at hj1 hj2
      simp only [hj] at hblk
      have hb0 : b < wr.heap.size := hLk.facts.2.2.2.2.2.2.1
      have HLk := Lib.hid hLk; clear hLk
      have HOWN := Lib.hid hown; clear hown
      have HBEL := Lib.hid hbel; clear hbel
      have HBLK := Lib.hid hblk; clear hblk
      have HJ := Lib.hid hj; clear hj
      go_wp2_with fail
      refine (HBLK.out _ HLk.out).mono ?_
      rintro e w1 ⟨rfl, hL1, hK1⟩
      have hown1 := Kb.owns HOWN.out hK1 (owns_ne HOWN.out)
      have hbel1 := Below.kb HBEL.out hK1 (by omega)
      have hb1 : b < w1.heap.size := hL1.facts.2.2.2.2.2.2.1
      have HOWN1 := Lib.hid hown1; clear hown1
      have HBEL1 := Lib.hid hbel1; clear hbel1 hK1
      rcases hmo : moreAt s j with _ | _
      · have hend := toksGo_end s k acc (by rw [HJ.out]; exact hmo)
        rw [HJ.out] at hend
        have HEND := Lib.hid hend; clear hend hmo
        obtain ⟨c0, c1, c2, c3, c4, c5, hbq, f0, f1, f2, f3, f4, f5⟩ := hL1.facts
        have HL1 := Lib.hid hL1; clear hL1
        go_wp2_with (at_builtin; refine wpList_append_own _ rfl _ _ 30 rfl (b + 1) 73 i0 (.agg #[.int .i64 0, .string ⟨#[]⟩, .int .i64 0, .int .i64 0]) 4 40 Tryz.underlying30 hi hz0 hz1 hz2 rfl (by decide) _ _ _ rfl (owns_below' HOWN1.out (by (repeat (first | exact Below.refl _ _ | refine Below.drew ?_ | (refine below_gw' ?_ (by first | omega | (simp [go_sem]; done) | (simp [go_sem]; omega)) _) | (refine Below.alloc ?_ (by first | omega | (simp [go_sem]; done) | (simp [go_sem]; omega)) _) | (refine Below.setCell ?_ (by first | omega | (simp [go_sem]; done) | (simp [go_sem]; omega)) _))))) _ 1 1 [.int .i64 0, .string ⟨#[]⟩, .int .i64 0, .int .i64 j] rfl rfl ?c1 ?c2 ?c3 ?c4 ?c5 ?_)
        try case c1 =>
          intro q u hq
          rw [addr_add]
          match q, hq with
          | 0, hq => simp at hq; subst hq; simp [go_sem]
          | 1, hq => simp at hq; subst hq; simp [go_sem]
          | 2, hq => simp at hq; subst hq; simp [go_sem]
          | 3, hq => simp at hq; subst hq; simp [go_sem]
        case c2 => first | exact ⟨rfl, rfl, rfl, rfl⟩ | (intro u hu; simp at hu; rcases hu with rfl | rfl | rfl | rfl <;> rfl) | rfl
        case c3 => unfold maxLen; omega
        case c4 => omega
        case c5 => (first | omega | (simp [go_sem]; done) | (simp [go_sem]; omega))
        intro v' w3 hown' hgrow _
        have hb' : Below b w w3 := (HBEL1.out.trans (Below.mono (show Below w1.heap.size w1 _ by (repeat (first | exact Below.refl _ _ | refine Below.drew ?_ | (refine below_gw' ?_ (by first | omega | (simp [go_sem]; done) | (simp [go_sem]; omega)) _) | (refine Below.alloc ?_ (by first | omega | (simp [go_sem]; done) | (simp [go_sem]; omega)) _) | (refine Below.setCell ?_ (by first | omega | (simp [go_sem]; done) | (simp [go_sem]; omega)) _)))) (by omega))).grown hgrow (by simp [go_sem]; omega) (by
          intro q hq
          have := HOWN1.out.2
          rcases this with ⟨h, _⟩ | ⟨g, cap, cur, h, hg, _⟩
          · rw [h] at hq; cases hq
          · rw [h] at hq; cases hq; exact Nat.le_of_succ_le hg)
        have HOWN3 := Lib.hid hown'; clear hown'
        have HB' := Lib.hid hb'; clear hb' hgrow
        go_wp2_with fail
        go_ret2
        rw [← HK0.out, HEND.out]
        refine ⟨_, rfl, ?_, by rw [HBB.out]; exact HB'.out⟩
        have hrow := Row.of_owns HOWN3.out
        rw [tokc_one] at hrow
        rw [List.length_append]; exact hrow
      · have hjl := moreAt_lt hmo
        have hnx := fun w hL => next_any s j b t w hL (by omega) hs
        have hcase : (∃ e, nextP s j = .error e) ∨ ∃ t n, nextP s j = .ok (t, n) := by
          cases nextP s j with
          | error e => exact .inl ⟨e, rfl⟩
          | ok x => exact .inr ⟨x.1, x.2, rfl⟩
        rcases hcase with ⟨c, hn⟩ | ⟨⟨tk, tt, tn, ta⟩, n, hn⟩
        · have herr := toksGo_err s k acc c (by rw [HJ.out]; exact hmo) (by rw [HJ.out]; exact hn)
          have hc0 : (c != 0) = true := by rcases nextP_err s j c hn with rfl | rfl <;> rfl
          simp only [hn] at hnx
          have HERR := Lib.hid herr; clear herr hmo hn
          have HNX := Lib.hid hnx; clear hnx
          have HL1 := Lib.hid hL1; clear hL1
          go_wp2_with fail
          refine (HNX.out _ HL1.out).mono ?_
          rintro e w2 ⟨hK2, rfl⟩
          have hbel2 := Below.kb HBEL1.out hK2 (by omega)
          have HBEL2 := Lib.hid hbel2; clear hbel2 hK2
          go_wp2_with fail
          go_ret2
          rw [← HK0.out, HERR.out]
          exact ⟨rfl, by rw [HBB.out]; exact HBEL2.out⟩
        · have hstp := toksGo_step s k acc ⟨tk, tt, tn, ta⟩ n (by rw [HJ.out]; exact hmo) (by rw [HJ.out]; exact hn)
          have hbd := nextP_bd s j hjl _ n hn
          simp only [hn] at hnx
          have HSTP := Lib.hid hstp; clear hstp hmo hn
          have HNX := Lib.hid hnx; clear hnx
          obtain ⟨hn1, hn2, hn3, hn4, hn5⟩ := hbd
          have HL1 := Lib.hid hL1; clear hL1
          go_wp2_with fail
          refine (HNX.out _ HL1.out).mono ?_
          rintro e w2 ⟨hK2, rfl, hL2⟩
          have hown2 := Kb.owns HOWN1.out hK2 (owns_ne HOWN1.out)
          have hbel2 := Below.kb HBEL1.out hK2 (by omega)
          clear HOWN1 HBEL1 HL1 hb1 hK2
          obtain ⟨c0, c1, c2, c3, c4, c5, hb1, f0, f1, f2, f3, f4, f5⟩ := hL2.facts
          simp only at hL2 c2 c3 c4 c5
          have HOWN1 := Lib.hid hown2; clear hown2
          have HBEL1 := Lib.hid hbel2; clear hbel2
          have HL2 := Lib.hid hL2; clear hL2
          go_wp2_with (at_builtin; refine wpList_append_own _ rfl _ _ 30 rfl (b + 1) 73 i0 (.agg #[.int .i64 0, .string ⟨#[]⟩, .int .i64 0, .int .i64 0]) 4 40 Tryz.underlying30 hi hz0 hz1 hz2 rfl (by decide) _ _ _ rfl (owns_below' HOWN1.out (by (repeat (first | exact Below.refl _ _ | refine Below.drew ?_ | (refine below_gw' ?_ (by first | omega | (simp [go_sem]; done) | (simp [go_sem]; omega)) _) | (refine Below.alloc ?_ (by first | omega | (simp [go_sem]; done) | (simp [go_sem]; omega)) _) | (refine Below.setCell ?_ (by first | omega | (simp [go_sem]; done) | (simp [go_sem]; omega)) _))))) _ 1 1 [.int .i64 tk, .string tt, .int .i64 tn, .int .i64 ta] rfl rfl ?d1 ?d2 ?d3 ?d4 ?d5 ?_)
          try case d1 =>
            intro q u hq
            rw [addr_add]
            match q, hq with
            | 0, hq => simp at hq; subst hq; simp [go_sem]
            | 1, hq => simp at hq; subst hq; simp [go_sem]
            | 2, hq => simp at hq; subst hq; simp [go_sem]
            | 3, hq => simp at hq; subst hq; simp [go_sem]
          case d2 => first | exact ⟨rfl, rfl, rfl, rfl⟩ | (intro u hu; simp at hu; rcases hu with rfl | rfl | rfl | rfl <;> rfl) | rfl
          case d3 => unfold maxLen; omega
          case d4 => omega
          case d5 => (first | omega | (simp [go_sem]; done) | (simp [go_sem]; omega))
          intro v' w3 hown' hgrow _
          have hb' : Below b w w3 := (HBEL1.out.trans (Below.mono (show Below w2.heap.size w2 _ by (repeat (first | exact Below.refl _ _ | refine Below.drew ?_ | (refine below_gw' ?_ (by first | omega | (simp [go_sem]; done) | (simp [go_sem]; omega)) _) | (refine Below.alloc ?_ (by first | omega | (simp [go_sem]; done) | (simp [go_sem]; omega)) _) | (refine Below.setCell ?_ (by first | omega | (simp [go_sem]; done) | (simp [go_sem]; omega)) _)))) (by omega))).grown hgrow (by simp [go_sem]; omega) (by
            intro q hq
            have := HOWN1.out.2
            rcases this with ⟨h, _⟩ | ⟨g, cap, cur, h, hg, _⟩
            · rw [h] at hq; cases hq
            · rw [h] at hq; cases hq; exact Nat.le_of_succ_le hg)
          have hL3 := LexAt.grown (HL2.out.alloc _) hgrow (owns_ne HOWN1.out)
          have HOWN3 := Lib.hid hown'; clear hown'
          have HB' := Lib.hid hb'; clear hb' hgrow
          have HL3 := Lib.hid hL3; clear hL3
          go_wp2_with fail
          go_roundw
          case rel => exact ⟨n, acc ++ [⟨tk, tt, tn, ta⟩], _, by omega, by rw [List.length_append, List.length_singleton]; omega, HL3.out, by rw [← tokc_one, List.length_append]; exact HOWN3.out, HB'.out, Lib.hid (by rw [← HSTP.out]; exact HK0.out)⟩
          case measure => rw [HLk.out.offAt, HL3.out.offAt]; omega
end Go.Proofs.YtpkbonfbehhbdaaGreatDoor

/- Parts of a row of tokens. -/
namespace Go.Proofs.YtpkbonfbehhbdaaGreatDoor
open Go.RowKit Go.Sort

theorem tokc_cons (t : Tok) (l : List Tok) : tokc (t :: l) = [.int .i64 t.kind, .string t.text, .int .i64 t.n, .int .i64 t.off] ++ tokc l := rfl
theorem tokc_take : ∀ (l : List Tok) (n : Nat), tokc (l.take n) = (tokc l).take (n * 4)
  | l, 0 => by simp [tokc]
  | [], n + 1 => by simp [tokc]
  | t :: l, n + 1 => by
    rw [List.take_succ_cons, tokc_cons, tokc_cons, tokc_take l n, show (n + 1) * 4 = n * 4 + 1 + 1 + 1 + 1 by omega]
    simp only [List.cons_append, List.nil_append, List.take_succ_cons]
theorem tokc_drop : ∀ (l : List Tok) (n : Nat), tokc (l.drop n) = (tokc l).drop (n * 4)
  | l, 0 => by simp
  | [], n + 1 => by simp [tokc]
  | t :: l, n + 1 => by
    rw [List.drop_succ_cons, tokc_cons, tokc_drop l n, show (n + 1) * 4 = n * 4 + 1 + 1 + 1 + 1 by omega]
    simp only [List.cons_append, List.nil_append, List.drop_succ_cons]
/-- A row of tokens that is not empty: its tokens, and its parts. -/
theorem Row.tok2 {w : World} {v : Value} {l : List Tok} (h : Row w v l.length (tokc l)) (hl : l ≠ []) : ∃ g o cap, v = .slice (some ⟨g, o, none⟩) l.length cap ∧ l.length ≤ cap ∧ g < w.heap.size ∧
    (∀ i x, l[i]? = some x → w.cell? ⟨g, o + i * 4, none⟩ = some (.int .i64 x.kind) ∧ w.cell? ⟨g, o + i * 4 + 1, none⟩ = some (.string x.text) ∧ w.cell? ⟨g, o + i * 4 + 2, none⟩ = some (.int .i64 x.n) ∧ w.cell? ⟨g, o + i * 4 + 3, none⟩ = some (.int .i64 x.off)) ∧
    (∀ lo hi a' cap', lo ≤ hi → hi ≤ l.length → (lo < hi → a' = some ⟨g, o + lo * 4, none⟩) → hi - lo ≤ cap' → Row w (.slice a' (hi - lo) cap') ((l.take hi).drop lo).length (tokc ((l.take hi).drop lo))) := by
  have hne : tokc l ≠ [] := by intro e; apply hl; have := tokc_len l; rw [e] at this; exact List.eq_nil_of_length_eq_zero (by simp at this; omega)
  obtain ⟨a, cap, hv, hn, h⟩ := h
  obtain ⟨g, o, rfl, hg, hc⟩ := h hne
  refine ⟨g, o, cap, hv, hn, hg, fun i x hx => ?_, fun lo hi a' cap' h1 h2 ha h3 => ?_⟩
  · have hi : i < l.length := (List.getElem?_eq_some_iff.1 hx).1
    have hlen := tokc_len l
    obtain ⟨e0, e1, e2, e3⟩ := tokc_get l i x hx
    exact ⟨(hc (i * 4) (by omega)).trans e0, by rw [Nat.add_assoc]; exact (hc (i * 4 + 1) (by omega)).trans e1, by rw [Nat.add_assoc]; exact (hc (i * 4 + 2) (by omega)).trans e2, by rw [Nat.add_assoc]; exact (hc (i * 4 + 3) (by omega)).trans e3⟩
  · have hlen : ((l.take hi).drop lo).length = hi - lo := by rw [List.length_drop, List.length_take]; omega
    refine ⟨a', cap', by rw [hlen], by omega, fun hne2 => ?_⟩
    have hlt : lo < hi := by
      rcases Nat.lt_or_ge lo hi with h | h
      · exact h
      · exfalso; apply hne2
        have : (l.take hi).drop lo = [] := List.eq_nil_of_length_eq_zero (by omega)
        rw [this]; rfl
    refine ⟨g, o + lo * 4, ha hlt, hg, fun j hj => ?_⟩
    have hlj := tokc_len ((l.take hi).drop lo)
    have hlen0 := tokc_len l
    rw [tokc_drop, tokc_take, List.getElem?_drop, List.getElem?_take, if_pos (by omega), ← hc (lo * 4 + j) (by omega), Nat.add_assoc]
theorem scan_part (l : List Tok) : ∀ (pe : Bool) (d : Int) (i : Nat) (best : Option Nat) (lev : Nat), scan exLang pe d i best lev l = best ∨ ∃ j, i ≤ j ∧ j < i + l.length ∧ scan exLang pe d i best lev l = some j := by
  induction l with
  | nil => intro pe d i best lev; exact .inl rfl
  | cons t l ih =>
    intro pe d i best lev
    simp only [scan]
    split
    · rcases ih (exLang.ends t) (d + dl exLang t) (i + 1) (some i) (exLang.lvl t) with h | ⟨j, h1, h2, h⟩
      · exact .inr ⟨i, Nat.le_refl _, by simp, h⟩
      · exact .inr ⟨j, by omega, by simp; omega, h⟩
    · rcases ih (exLang.ends t) (d + dl exLang t) (i + 1) best lev with h | ⟨j, h1, h2, h⟩
      · exact .inl h
      · exact .inr ⟨j, by omega, by simp; omega, h⟩
theorem place_in {l : List Tok} {i : Nat} (h : place exLang l = some i) : 0 < i ∧ i < l.length := by
  unfold place at h
  cases l with
  | nil => cases h
  | cons t l =>
    simp only [scan] at h
    rw [if_neg (by simp)] at h
    rcases scan_part l (exLang.ends t) (0 + dl exLang t) (0 + 1) none 99 with e | ⟨j, h1, h2, e⟩
    · rw [e] at h; cases h
    · rw [e] at h; cases h
      simp
      omega
end Go.Proofs.YtpkbonfbehhbdaaGreatDoor
