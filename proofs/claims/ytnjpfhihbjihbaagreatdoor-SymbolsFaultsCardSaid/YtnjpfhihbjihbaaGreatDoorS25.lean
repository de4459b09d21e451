/- Joined texts: Build, TextP, LexE. -/
import Derived.Test.YtnjpfhihbjihbaaGreatDoorS01
import Derived.Test.YtnjpfhihbjihbaaGreatDoorS05
import Derived.Test.YtnjpfhihbjihbaaGreatDoorS20
import Derived.Test.YtnjpfhihbjihbaaGreatDoorS21
import Derived.Laws.BitsLemmas
import Derived.Laws.Externs
import Derived.Lib.AppendStr
import Derived.Lib.Builder
import Derived.Lib.Slices
import Derived.Lib.Strings
import Derived.Lib.Walk
import Derived.Shelf.RegionOpenPlain
/- A strings.Builder: its writing methods. (Lines of the shelf's worked proofs, turned to this translation, in which the panic of copyCheck is not loaded.) -/
set_option linter.unusedVariables false
namespace Go.Proofs.YtnjpfhihbjihbaaGreatDoor
open Go.RowKit Go.Sort

theorem sizeBuilder : (Tryz.prog.info? 208).map (·.size) = some 2 := by kernel_rfl
theorem liesBuilder : liesAt Tryz.prog Tryz.prog.depth 208 (2 / Tryz.prog.cellsOf 208) 0 208 1 = true := by kernel_rfl
theorem infoByte : (Tryz.prog.info? 5).map (fun i => (i.zero, i.size, i.bytes)) = some (some (.int .u8 0), 1, 1) := by kernel_rfl

set_option maxHeartbeats 1000000 in
set_option maxRecDepth 100000 in
theorem build_check_used (b : Nat) (w : World) (h0 : w.cell? ⟨b, 0, none⟩ = some (.pointer (some ⟨b, 0, none⟩))) :
    Calls Tryz.prog 162 #[.pointer (some ⟨b, 0, none⟩)] w fun e w' => e = .returned (.tuple #[]) ∧ w' = w := by
  obtain ⟨j, hj, _⟩ := Option.map_eq_some_iff.1 sizeBuilder
  go_enter Tryz.func162, Tryz.ntmps162
  go_wp2
  rw [Lib.run_neq_ptr_same w _ Tryz.underlying206 hj]
  go_wp2
  go_end0
  exact ⟨rfl, rfl⟩

set_option maxHeartbeats 1000000 in
set_option maxRecDepth 100000 in
theorem build_check_fresh (b : Nat) (w : World) (h0 : w.cell? ⟨b, 0, none⟩ = some (.pointer none)) (hsh : w.shape? b = some (208, 2)) (hfz : w.frozen? ⟨b, 0, none⟩ = false) :
    Calls Tryz.prog 162 #[.pointer (some ⟨b, 0, none⟩)] w fun e w' => e = .returned (.tuple #[]) ∧ w' = w.setCell ⟨b, 0, none⟩ (.pointer (some ⟨b, 0, none⟩)) := by
  obtain ⟨j, hj, hjs⟩ := Option.map_eq_some_iff.1 sizeBuilder
  go_enter Tryz.func162, Tryz.ntmps162
  go_wp2
  rw [Lib.run_to_unsafe w ⟨b, 0, none⟩ Tryz.underlying206 Tryz.underlying235 hj (by rw [hjs]; decide) hsh (Nat.zero_lt_succ 1)]
  simp only [Result.andThen]
  rw [Oper.upon_value]
  go_wp2
  rw [run_callFunc_extern Tryz.func171 (by kernel_rfl) (by kernel_rfl) (by kernel_rfl) (e := Extern.AbiNoEscape.same) (by kernel_rfl)]
  rw [Lib.run_noEscape]
  simp only [Result.andThen]
  rw [Oper.upon_value]
  go_wp2
  rw [Lib.run_from_unsafe w ⟨b, 0, none⟩ Tryz.underlying235 Tryz.underlying206 hj hsh liesBuilder]
  simp only [Result.andThen]
  rw [Oper.upon_value]
  go_wp2
  go_end0
  exact ⟨rfl, rfl⟩

abbrev IsB (B b : Nat) (bs : List Value) (w : World) : Prop := Lib.IsBuilder 208 5 B b bs w
abbrev BAt (B b : Nat) (p : Value) (bs : List Value) (w : World) : Prop := Lib.BuilderAt 208 5 B b p bs w

theorem build_check (B b : Nat) (bs : List Value) (w : World) (h : IsB B b bs w) :
    Calls Tryz.prog 162 #[.pointer (some ⟨b, 0, none⟩)] w fun e w' => e = .returned (.tuple #[]) ∧ (BAt B b (.pointer (some ⟨b, 0, none⟩)) bs w' ∧ Below B w w') := by
  rcases h with h | h
  · refine (build_check_fresh b w h.cell0 h.shape h.frozen0).mono ?_
    rintro e w' ⟨rfl, rfl⟩
    exact ⟨rfl, h.used _, (Below.refl B w).setCell (p := ⟨b, 0, none⟩) h.1 _⟩
  · refine (build_check_used b w h.cell0).mono ?_
    rintro e w' ⟨rfl, rfl⟩
    exact ⟨rfl, h, Below.refl B _⟩

set_option maxHeartbeats 2000000 in
set_option maxRecDepth 100000 in
theorem build_byte (B b : Nat) (bs : List Value) (c : Int) (w : World) (h : IsB B b bs w) (hlen : bs.length + 1 ≤ 140737488355328) (hBw : B ≤ w.heap.size) :
    Calls Tryz.prog 151 #[.pointer (some ⟨b, 0, none⟩), .int .u8 c] w fun e w' => e = .returned .nilIface ∧ (BAt B b (.pointer (some ⟨b, 0, none⟩)) (bs ++ [.int .u8 c]) w' ∧ Below B w w') := by
  obtain ⟨i0, hi, hz0, hz1, hz2⟩ := info_parts infoByte
  go_enter Tryz.func151, Tryz.ntmps151
  go_wp2_with (refine (build_check B b bs _ h).mono ?_)
  rintro e w1 ⟨rfl, h1, hb1⟩
  obtain ⟨hB, v, hbk, hown, hne⟩ := h1
  have c0 : w1.cell? ⟨b, 0, none⟩ = some (.pointer (some ⟨b, 0, none⟩)) := by rw [Lib.cell_of_heap hbk]; rfl
  have c1 : w1.cell? ⟨b, 1, none⟩ = some v := by rw [Lib.cell_of_heap hbk]; rfl
  go_wp2_with (at_builtin; refine wpList_append_own _ rfl _ _ 205 rfl B 5 i0 (.int .u8 0) 1 1 Tryz.underlying205 hi hz0 hz1 hz2 rfl (by decide) _ _ _ rfl (hown.alloc _) ⟨w1.heap.size, 0, none⟩ 1 1 [.int .u8 c] rfl rfl ?c1 ?c2 ?c3 ?c4 ?c5 ?_)
  case c1 =>
    intro j u hj
    match j, hj with
    | 0, hj => simp at hj; subst hj; simp [Addr.add]
  case c2 => intro u hu; simp at hu; subst hu; rfl
  case c3 => unfold maxLen; omega
  case c4 => omega
  case c5 => have := hb1.size; simp; omega
  intro v' w2 hown' hgrow _
  have hlt : b < w1.heap.size := by
    rcases Nat.lt_or_ge b w1.heap.size with h' | h'
    · exact h'
    · simp [Array.getElem?_eq_none h'] at hbk
  have hb2 : w2.heap[b]? = some (.cells #[.pointer (some ⟨b, 0, none⟩), v] 208 (0, 0)) := by
    rw [hgrow.block b (by simp; omega) (fun e => hne e.symm), Lib.alloc_old w1 _ b hlt]
    exact hbk
  have d0 : w2.cell? ⟨b, 0, none⟩ = some (.pointer (some ⟨b, 0, none⟩)) := by rw [Lib.cell_of_heap hb2]; rfl
  have d1 : w2.cell? ⟨b, 1, none⟩ = some v := by rw [Lib.cell_of_heap hb2]; rfl
  have f1 : w2.frozen? ⟨b, 1, none⟩ = false := Lib.frozen_of_heap hb2 1
  obtain ⟨g, cap, rfl⟩ : ∃ g cap, v' = .slice (some ⟨g, 0, none⟩) (bs.length + 1) cap := by
    rcases hown'.2 with ⟨_, h0⟩ | ⟨g, cap, cur, hv, _⟩
    · omega
    · exact ⟨g, cap, hv⟩
  go_wp2
  go_ret
  refine ⟨rfl, ?_, ?_⟩
  · exact Lib.BuilderAt.put (T := 208) (e := 5) hB hb2 (bs' := bs ++ [.int .u8 c]) (by simpa using hown') (by decide)
  · exact ((hb1.alloc (by have := hb1.size; omega) _).grown hgrow (by have := hb1.size; simp; omega) (fun k hk => (hown.lt k hk).1)).setCell (p := ⟨b, 1, none⟩) hB _

set_option maxHeartbeats 2000000 in
set_option maxRecDepth 100000 in
theorem build_string (B b : Nat) (bs : List Value) (s : ByteArray) (w : World) (h : IsB B b bs w) (hlen : bs.length + s.size ≤ 140737488355328) (hBw : B ≤ w.heap.size) :
    Calls Tryz.prog 150 #[.pointer (some ⟨b, 0, none⟩), .string s] w fun e w' => e = .returned (.tuple #[.int .i64 s.size, .nilIface]) ∧ (BAt B b (.pointer (some ⟨b, 0, none⟩)) (bs ++ Lib.strCells s) w' ∧ Below B w w') := by
  obtain ⟨i0, hi, hz0, hz1, hz2⟩ := info_parts infoByte
  go_enter Tryz.func150, Tryz.ntmps150
  go_wp2_with (refine (build_check B b bs _ h).mono ?_)
  rintro e w1 ⟨rfl, h1, hb1⟩
  obtain ⟨hB, v, hbk, hown, hne⟩ := h1
  have c0 : w1.cell? ⟨b, 0, none⟩ = some (.pointer (some ⟨b, 0, none⟩)) := by rw [Lib.cell_of_heap hbk]; rfl
  have c1 : w1.cell? ⟨b, 1, none⟩ = some v := by rw [Lib.cell_of_heap hbk]; rfl
  go_wp2_with (at_builtin; refine Lib.wpList_append_own_string _ rfl _ _ 205 9 rfl B 5 i0 Tryz.underlying205 Tryz.underlying9 hi hz0 hz1 hz2 _ _ _ rfl hown s rfl ?c3 ?c4 ?c5 ?_)
  case c3 => unfold maxLen; omega
  case c4 => omega
  case c5 => have := hb1.size; omega
  intro v' w2 hown' hgrow _
  have hlt : b < w1.heap.size := by
    rcases Nat.lt_or_ge b w1.heap.size with h' | h'
    · exact h'
    · simp [Array.getElem?_eq_none h'] at hbk
  have hb2 : w2.heap[b]? = some (.cells #[.pointer (some ⟨b, 0, none⟩), v] 208 (0, 0)) := by
    rw [hgrow.block b hlt (fun e => hne e.symm)]
    exact hbk
  have d0 : w2.cell? ⟨b, 0, none⟩ = some (.pointer (some ⟨b, 0, none⟩)) := by rw [Lib.cell_of_heap hb2]; rfl
  have d1 : w2.cell? ⟨b, 1, none⟩ = some v := by rw [Lib.cell_of_heap hb2]; rfl
  have f1 : w2.frozen? ⟨b, 1, none⟩ = false := Lib.frozen_of_heap hb2 1
  obtain ⟨ao, n', cap, rfl⟩ : ∃ ao n' cap, v' = .slice ao n' cap := by
    rcases hown'.2 with ⟨hv, _⟩ | ⟨g, cap, cur, hv, _⟩
    · exact ⟨_, _, _, hv⟩
    · exact ⟨_, _, _, hv⟩
  go_wp2
  go_ret2
  refine ⟨rfl, ?_, ?_⟩
  · exact Lib.BuilderAt.put (T := 208) (e := 5) hB hb2 (bs' := bs ++ Lib.strCells s) (by simpa [Lib.strCells_length] using hown') (by decide)
  · exact (hb1.grown hgrow (by have := hb1.size; omega) (fun k hk => (hown.lt k hk).1)).setCell (p := ⟨b, 1, none⟩) hB _
end Go.Proofs.YtnjpfhihbjihbaaGreatDoor

/- A builder beside a block that is written to; a look for the mark that ends a string. -/
namespace Go.Proofs.YtnjpfhihbjihbaaGreatDoor
open Go.RowKit Go.Sort

theorem BAt.keep {g : Nat} {p : Value} {bs : List Value} {w w' : World} (h : BAt g g p bs w) (hk : ∀ k, g ≤ k → k < w.heap.size → w'.heap[k]? = w.heap[k]?) : BAt g g p bs w' := by
  obtain ⟨hB, v, hb, hown, hne⟩ := h
  refine ⟨hB, v, ?_, ?_, hne⟩
  · rw [hk g (Nat.le_refl _) (lt_of_block hb)]; exact hb
  · obtain ⟨h1, h2⟩ := hown
    refine ⟨h1, ?_⟩
    rcases h2 with h2 | ⟨q, cap, cur, hv, hg, hh, r⟩
    · exact .inl h2
    · exact .inr ⟨q, cap, cur, hv, hg, by rw [hk q hg (lt_of_block hh)]; exact hh, r⟩
theorem IsB.keep {g : Nat} {bs : List Value} {w w' : World} (h : IsB g g bs w) (hk : ∀ k, g ≤ k → k < w.heap.size → w'.heap[k]? = w.heap[k]?) : IsB g g bs w' := by
  rcases h with h | h
  · exact .inl (BAt.keep h hk)
  · exact .inr (BAt.keep h hk)
theorem IsB.kb {g b : Nat} {bs : List Value} {w w' : World} (h : IsB g g bs w) (hk : Kb b w w') (hb : b < g) : IsB g g bs w' :=
  IsB.keep h fun k h1 h2 => hk.block k h2 (by omega)
theorem Kb.below_from {b g : Nat} {u v w : World} (h : Kb b u v) (hb : Below g v w) (hg : u.heap.size ≤ g) : Kb b u w :=
  ⟨hb.os.trans h.os, hb.tape.trans h.tape, hb.output.trans h.output, Nat.le_trans h.size hb.size, fun k hk hkb => (hb.block k (by omega)).trans (h.block k hk hkb)⟩

theorem idx_ge : ∀ (l : List UInt8) (m : UInt8), -1 ≤ Lib.indexByte l m
  | [], m => by simp [Lib.indexByte]
  | b :: l, m => by
    unfold Lib.indexByte
    have := idx_ge l m
    split
    · omega
    · split <;> omega
theorem quoted_none (s : ByteArray) (m : UInt8) (k : Nat) (acc : ByteArray) (h : Lib.indexByte (s.data.toList.drop k) m = -1) : quotedGo s m k acc = none := by
  by_cases hlt : k < s.size
  · rw [str_get s k hlt] at h
    unfold Lib.indexByte at h
    split at h
    · cases h
    · rename_i hne
      have hne' : s[k] ≠ m := by simpa using hne
      rw [quotedGo_step s m k acc hlt hne']
      apply quoted_none
      split at h
      · rename_i h1; exact eq_of_beq h1
      · rename_i h1
        have : -1 ≤ Lib.indexByte (s.data.toList.drop (k + 1)) m := idx_ge _ _
        have h3 : Lib.indexByte (s.data.toList.drop (k + 1)) m ≠ -1 := by simpa using h1
        omega
  · exact quotedGo_out s m k acc hlt
  termination_by s.size - k
theorem sub_self (s : ByteArray) (k : Nat) : sub s k k = ⟨#[]⟩ := by
  unfold sub; apply ByteArray.ext; apply Array.ext'; simp
theorem sub_step (s : ByteArray) (k n : Nat) (h : k + n < s.size) : sub s k (k + 1) ++ sub s (k + 1) (k + 1 + n) = sub s k (k + 1 + n) := by
  unfold sub
  apply ByteArray.ext; apply Array.ext'
  simp only [ByteArray.data_append, ByteArray.data_extract, Array.toList_append, Array.toList_extract, List.extract_eq_take_drop]
  rw [show k + 1 - k = 1 by omega, show k + 1 + n - (k + 1) = n by omega, show k + 1 + n - k = n + 1 by omega]
  rw [List.drop_eq_getElem_cons (show k < s.data.toList.length by simp; have : s.data.size = s.size := rfl; omega)]
  simp
theorem ba_append_assoc (a b c : ByteArray) : a ++ b ++ c = a ++ (b ++ c) := ByteArray.append_assoc
theorem ba_append_nil (a : ByteArray) : a ++ ⟨#[]⟩ = a := ByteArray.append_empty
theorem quoted_some (s : ByteArray) (m : UInt8) : ∀ (n k : Nat) (acc : ByteArray), Lib.indexByte (s.data.toList.drop k) m = (n : Int) → k + n < s.size ∧ bat s (k + n) = m ∧ quotedGo s m k acc = quotedGo s m (k + n) (acc ++ sub s k (k + n))
  | n, k, acc, h => by
    by_cases hlt : k < s.size
    · rw [str_get s k hlt] at h
      unfold Lib.indexByte at h
      split at h
      · rename_i he
        obtain rfl : n = 0 := by omega
        refine ⟨hlt, by rw [Nat.add_zero, ← bat_get s k hlt]; exact eq_of_beq he, ?_⟩
        rw [Nat.add_zero, sub_self, ba_append_nil]
      · rename_i hne
        have hne' : s[k] ≠ m := by simpa using hne
        split at h
        · omega
        · rename_i h1
          obtain ⟨n', rfl⟩ : ∃ n', n = n' + 1 := ⟨n - 1, by
            have : -1 ≤ Lib.indexByte (s.data.toList.drop (k + 1)) m := idx_ge _ _
            have h3 : Lib.indexByte (s.data.toList.drop (k + 1)) m ≠ -1 := by simpa using h1
            omega⟩
          have ih := quoted_some s m n' (k + 1) (acc ++ sub s k (k + 1)) (by omega)
          rw [show k + (n' + 1) = k + 1 + n' by omega]
          refine ⟨ih.1, ih.2.1, ?_⟩
          rw [quotedGo_step s m k acc hlt hne', ih.2.2, ba_append_assoc, sub_step s k n' (by omega)]
    · rw [List.drop_of_length_le (by simp; have : s.data.size = s.size := rfl; omega)] at h
      simp [Lib.indexByte] at h
end Go.Proofs.YtnjpfhihbjihbaaGreatDoor

/- The program's lexer: strings. -/
namespace Go.Proofs.YtnjpfhihbjihbaaGreatDoor
open Go.RowKit Go.Sort

theorem bc_append (a b : ByteArray) : Lib.byteCells a.data.toList ++ Lib.strCells b = Lib.byteCells (a ++ b).data.toList := by
  unfold Lib.byteCells Lib.strCells
  simp
theorem bc_len (a : ByteArray) : (Lib.byteCells a.data.toList).length = a.size := by
  unfold Lib.byteCells
  simp
theorem bc_snoc (a : ByteArray) (c : UInt8) : Lib.byteCells a.data.toList ++ [.int .u8 (c.toNat : Int)] = Lib.byteCells (a ++ ⟨#[c]⟩).data.toList := by
  unfold Lib.byteCells
  simp
theorem LexAt.below {w w' : World} {b g : Nat} {s : ByteArray} {i : Int} {t : Tok} (h : LexAt w b s i t) (hb : Below g w w') (hg : b < g) : LexAt w' b s i t := by
  unfold LexAt at *
  rw [hb.block b hg]
  exact h
theorem sub_mark (s : ByteArray) (j : Nat) (hj : j < s.size) : sub s j (j + 1) = ⟨#[bat s j]⟩ := by
  have h := extract_snoc s j j (Nat.le_refl _) hj
  rw [show s.extract j j = (⟨#[]⟩ : ByteArray) from sub_self s j] at h
  rw [show sub s j (j + 1) = s.extract j (j + 1) from rfl, ← h]
  apply ByteArray.ext; simp

set_option maxHeartbeats 8000000 in
set_option maxRecDepth 100000 in
theorem text_any (s : ByteArray) (i b : Nat) (t : Tok) (w : World) (hL : LexAt w b s i t) (hi : i ≤ s.size) (hs : s.size ≤ 1000000) :
    Calls Tryz.prog 119 #[.pointer (some ⟨b, 0, none⟩)] w (ReadRes (textP s i) s i b t w) := by
  obtain ⟨Q, hQ⟩ : ∃ Q, textP s i = Q := ⟨_, rfl⟩
  rw [hQ]
  unfold textP at hQ
  have hpk := fun w hL => peek_any s i b t w hL
  obtain ⟨m, hm⟩ : ∃ m, bat s i = m := ⟨_, rfl⟩
  obtain ⟨c, hc⟩ : ∃ c : Int, (m.toNat : Int) = c := ⟨_, rfl⟩
  have hqp : quotedP s i = quotedGo s m (i + 1) ⟨#[]⟩ := by unfold quotedP; rw [hm]
  rw [hm] at hQ
  have hc8 : ∀ k : UInt8, m = k ↔ c = (k.toNat : Int) := fun k => by
    rw [← hc, ← UInt8.toNat_inj]; omega
  have h34 : (m = 34 ∨ m = 39) ↔ (c = 34 ∨ c = 39) := by rw [hc8, hc8]; rfl
  simp only [hm, hc] at hpk
  obtain ⟨c0, c1, c2, c3, c4, c5, hb, f0, f1, f2, f3, f4, f5⟩ := hL.facts
  have hi0 : (0 : Int) ≤ (i : Int) := by omega
  have HL := Lib.hid hL; clear hL
  have HPK := Lib.hid hpk; clear hpk
  by_cases hF : c = 34 ∨ c = 39
  · have hil : i < s.size := by
      rcases Nat.lt_or_ge i s.size with h1 | h1
      · exact h1
      · exfalso
        rw [bat_out s i (by omega)] at hm
        subst hm
        rw [show ((0 : UInt8).toNat : Int) = 0 from rfl] at hc
        omega
    rw [if_pos (h34.2 hF), hqp] at hQ
    have htst : ((c != 34) && (c != 39)) = false := by rcases hF with rfl | rfl <;> rfl
    obtain ⟨R, hR⟩ : ∃ R, quotedGo s m (i + 1) ⟨#[]⟩ = R := ⟨_, rfl⟩
    rw [hR] at hQ
    have hil' : (i : Int) < (s.size : Int) := by omega
    have HR := Lib.hid hR; clear hR hqp h34
    have HQ := Lib.hid hQ; clear hQ
    have hmc : (m.toNat : Int) = c := hc
    have HMC := Lib.hid hmc; clear hmc hc
    have hm0 : c ≠ 0 := by rcases hF with rfl | rfl <;> decide
    have HM := Lib.hid hm; clear hm hc8
    have htail : ∀ W1 : World, W1 = W1 := fun _ => rfl
    have hcase : ((c != 34) = false) ∨ ((c != 34) = true ∧ (c != 39) = false) := by rcases hF with rfl | rfl <;> decide
    clear hF htst htail
    rcases hcase with n34 | ⟨n34, n39⟩
    all_goals
      go_enter Tryz.func119, Tryz.ntmps119
      go_wp2_with fail
      refine (HPK.out _ HL.out).mono ?_
      rintro e w1 ⟨rfl, hb1⟩
      obtain ⟨p1, rfl⟩ := gw_of_below hb1
      clear hb1
      have hb1 : b < w.heap.size + p1.os.size := by omega
      go_wp2_with fail
      have hgw : w.heap.size ≤ w.heap.size + p1.os.size := by omega
      have hstart : IsB (w.heap.size + p1.os.size) (w.heap.size + p1.os.size) (Lib.byteCells (⟨#[]⟩ : ByteArray).data.toList) ((gw w p1).alloc (.cells #[.pointer none, .slice none 0 0] 208)) := by
        have h := Lib.fresh_isBuilder 208 5 (gw w p1)
        rw [gw_size] at h
        exact h
      have hga : w.heap.size + p1.os.size ≤ ((gw w p1).alloc (.cells #[.pointer none, .slice none 0 0] 208)).heap.size := by simp [go_sem]
      generalize w.heap.size + p1.os.size = g at *
      have HST := Lib.hid hstart; clear hstart
      have HGA := Lib.hid hga; clear hga
      clear c0 c1 c2 c3 c4 c5 f0 f1 f2 f3 f4 f5
      go_loopw [6] (fun _ wr => ∃ (j : Nat) (acc : ByteArray), j < s.size ∧ acc.size ≤ j ∧ LexAt wr b s j t ∧ IsB g g (Lib.byteCells acc.data.toList) wr ∧ g ≤ wr.heap.size ∧ Kb b w wr ∧ Hid (quotedGo s m (j + 1) acc = R)) (fun _ wr => s.size - (offAt wr b).toNat)
      case atStart => exact ⟨i, ⟨#[]⟩, hil, Nat.zero_le _, (HL.out.gw _).alloc _, HST.out, by have := HGA.out; exact this, by (with_reducible repeat (first | refine Kb.gw ?_ _ | refine Kb.setCell ?_ _ _ | refine Kb.alloc ?_ _ | refine Kb.drew ?_ | exact Kb.refl _ _ | exact HK.out)), HR⟩
      case round =>
        obtain ⟨j, acc, hj, hacc, hLj, hBj, hgj, hKj, HJ⟩ := hrel
        have hrest := fun w hL => rest_any s (j + 1) b t w hL (by omega)
        have hj0 : (0 : Int) ≤ (j : Int) := by omega
        have hj1 : (j : Int) < (s.size : Int) := by omega
        have hidx := fun w => Tryz.strings_IndexByte (sub s (j + 1) s.size) c w
        have e1 : c.toNat.toUInt8 = m := by rw [← HMC.out, Int.toNat_natCast]; exact UInt8.ofNat_toNat
        have e2 : (sub s (j + 1) s.size).data.toList = s.data.toList.drop (j + 1) := by
          unfold sub
          simp only [ByteArray.data_extract, Array.toList_extract, List.extract_eq_take_drop]
          exact List.take_of_length_le (by simp)
        simp only [e1, e2] at hidx
        clear e1 e2
        obtain ⟨q, hq⟩ : ∃ q, Lib.indexByte (s.data.toList.drop (j + 1)) m = q := ⟨_, rfl⟩
        have hq1 := idx_ge (s.data.toList.drop (j + 1)) m
        rw [hq] at hq1
        simp only [hq] at hidx
        obtain ⟨c0, c1, c2, c3, c4, c5, hbr, f0, f1, f2, f3, f4, f5⟩ := hLj.facts
        have HLj := Lib.hid hLj; clear hLj
        have HBj := Lib.hid hBj; clear hBj
        have HKj := Lib.hid hKj; clear hKj
        have HREST := Lib.hid hrest; clear hrest
        have HIDX := Lib.hid hidx; clear hidx
        have HK := HKj
        obtain ⟨S, hS⟩ : ∃ S, sub s (j + 1) s.size = S := ⟨_, rfl⟩
        have hSs : S.size = s.size - (j + 1) := by rw [← hS]; unfold sub; rw [ByteArray.size_extract]; omega
        have hsub : ∀ k, j + 1 + k ≤ s.size → S.extract 0 k = sub s (j + 1) (j + 1 + k) := fun k h => by rw [← hS]; exact sub_sub s (j + 1) k h
        rw [hS] at HREST HIDX
        clear hS
        by_cases hneg : q < 0
        · have hqq : q = -1 := by omega
          subst hqq
          have hnone := quoted_none s m (j + 1) acc hq
          have HN := Lib.hid (HJ.out.symm.trans hnone); clear hnone hq
          go_wp2_with fail
          refine (HREST.out _ ((HLj.out.at _).cong (by go_num))).mono ?_
          rintro e w2 ⟨rfl, hb2⟩
          obtain ⟨p2, rfl⟩ := gw_of_below hb2
          clear hb2
          go_wp2_with fail
          refine (HIDX.out _).mono ?_
          rintro e w2 ⟨rfl, rfl⟩
          go_wp2_with fail
          go_ret2
          rw [← HQ.out, HN.out]
          have HL := HLj
          exact ⟨by (with_reducible repeat (first | refine Kb.gw ?_ _ | refine Kb.setCell ?_ _ _ | refine Kb.alloc ?_ _ | refine Kb.drew ?_ | exact Kb.refl _ _ | exact HK.out)), rfl, j + 1, t, by omega, LexAt.cast (by (with_reducible repeat (first | apply LexAt.gw | apply LexAt.at | apply LexAt.kind | apply LexAt.text | apply LexAt.n | apply LexAt.off | apply LexAt.alloc | apply LexAt.drew | exact HL.out))) (by go_num) rfl⟩
        · obtain ⟨n, rfl⟩ : ∃ n : Nat, q = n := ⟨q.toNat, by omega⟩
          obtain ⟨hn1, hn2, hn3⟩ := quoted_some s m n (j + 1) acc hq
          have HN := Lib.hid (hn3.symm.trans HJ.out); clear hn3 hq
          have hn0 : (0 : Int) ≤ (n : Int) := by omega
          have hnS : (n : Int) ≤ (S.size : Int) := by omega
          have hext := hsub n (by omega)
          obtain ⟨C, hC⟩ : ∃ C, sub s (j + 1) (j + 1 + n) = C := ⟨_, rfl⟩
          have hCs : C.size = n := by rw [← hC]; unfold sub; rw [ByteArray.size_extract]; omega
          rw [hC] at hext HN
          have hbs := fun w h1 h2 => build_string g g (Lib.byteCells acc.data.toList) C w h1 (by rw [bc_len]; omega) h2
          rw [bc_append] at hbs
          have HBS := Lib.hid hbs; clear hbs
          have HN2 := Lib.hid hn2; clear hn2
          clear hsub hSs hC hneg hq1
          go_wp2_with fail
          refine (HREST.out _ ((HLj.out.at _).cong (by go_num))).mono ?_
          rintro e w2 ⟨rfl, hb2⟩
          obtain ⟨p2, rfl⟩ := gw_of_below hb2
          clear hb2
          have hb2 : b < wr.heap.size + p2.os.size := by omega
          go_wp2_with fail
          refine (HIDX.out _).mono ?_
          rintro e w2 ⟨rfl, rfl⟩
          go_wp2_with fail
          refine (HREST.out _ (((HLj.out.at _).cong (by go_num)).gw _)).mono ?_
          rintro e w2 ⟨rfl, hb3⟩
          obtain ⟨p3, rfl⟩ := gw_of_below hb3
          clear hb3
          go_wp2_with fail
          have hB2 := IsB.kb HBj.out (show Kb b wr (gw (gw (wr.setCell ⟨b, 1, none⟩ (.int .i64 ((j : Int) + 1))) p2) p3) by (with_reducible repeat (first | refine Kb.gw ?_ _ | refine Kb.setCell ?_ _ _ | refine Kb.alloc ?_ _ | refine Kb.drew ?_ | exact Kb.refl _ _ | exact HK.out))) hb1
          have hL2 : LexAt (gw (gw (wr.setCell ⟨b, 1, none⟩ (.int .i64 ((j : Int) + 1))) p2) p3) b s ((j : Int) + 1) t := ((HLj.out.at _).gw _).gw _
          have hK2 : Kb b w (gw (gw (wr.setCell ⟨b, 1, none⟩ (.int .i64 ((j : Int) + 1))) p2) p3) := by (with_reducible repeat (first | refine Kb.gw ?_ _ | refine Kb.setCell ?_ _ _ | refine Kb.alloc ?_ _ | refine Kb.drew ?_ | exact Kb.refl _ _ | exact HK.out))
          refine (HBS.out _ hB2 (Nat.le_trans hgj (Kb.size (show Kb b wr (gw (gw (wr.setCell ⟨b, 1, none⟩ (.int .i64 ((j : Int) + 1))) p2) p3) by (with_reducible repeat (first | refine Kb.gw ?_ _ | refine Kb.setCell ?_ _ _ | refine Kb.alloc ?_ _ | refine Kb.drew ?_ | exact Kb.refl _ _ | exact HK.out)))))).mono ?_
          rintro e w3 ⟨rfl, hB3, hb3⟩
          have hL3 := LexAt.below hL2 hb3 hb1
          have hK3 := Kb.below_from hK2 hb3 hgw
          have hg3 : g ≤ w3.heap.size := Nat.le_trans hgj (Nat.le_trans (Kb.size (show Kb b wr (gw (gw (wr.setCell ⟨b, 1, none⟩ (.int .i64 ((j : Int) + 1))) p2) p3) by (with_reducible repeat (first | refine Kb.gw ?_ _ | refine Kb.setCell ?_ _ _ | refine Kb.alloc ?_ _ | refine Kb.drew ?_ | exact Kb.refl _ _ | exact HK.out)))) hb3.size)
          clear hB2 hL2 hK2 hb3
          obtain ⟨d0, d1, d2, d3, d4, d5, hbb, g0, g1, g2, g3, g4, g5⟩ := hL3.facts
          clear c0 c1 c2 c3 c4 c5 f0 f1 f2 f3 f4 f5 hb2 HK
          have HL3 := Lib.hid hL3; clear hL3
          have HK := Lib.hid hK3; clear hK3
          have HB3 := Lib.hid hB3; clear hB3
          obtain ⟨k, hk⟩ : ∃ k, j + 1 + n + 1 = k := ⟨_, rfl⟩
          have hkI : (j : Int) + 1 + ((n : Int) + 1) = (k : Int) := by omega
          have hpk2 := fun w hL => peek_any s k b t w hL
          obtain ⟨c', hc'⟩ : ∃ c' : Int, ((bat s k).toNat : Int) = c' := ⟨_, rfl⟩
          simp only [hc'] at hpk2
          have HPK2 := Lib.hid hpk2; clear hpk2
          have hend : ¬ c' = c → R = some (acc ++ C, k) := fun hne => by
            rw [← HN.out, quotedGo_end s m (j + 1 + n) (acc ++ C) hn1 (by rw [bat_get s _ hn1]; exact HN2.out) (fun h => hne (by rw [← hc', ← hk, h.2]; exact HMC.out)), hk]
          have hgo : c' = c → k < s.size ∧ quotedGo s m (k + 1) (acc ++ C ++ ⟨#[m]⟩) = R := fun he => by
            have hks : k < s.size := by
              rcases Nat.lt_or_ge k s.size with h | h
              · exact h
              · exfalso; rw [bat_out s k (by omega)] at hc'; apply hm0; rw [← he, ← hc']; rfl
            have hbm : bat s k = m := by
              rw [← UInt8.toNat_inj]
              have h1 := HMC.out
              omega
            refine ⟨hks, ?_⟩
            rw [← HN.out, quotedGo_two s m (j + 1 + n) (acc ++ C) hn1 (by rw [bat_get s _ hn1]; exact HN2.out) (by omega) (by rw [hk]; exact hbm), sub_mark s _ hn1, HN2.out, show j + 1 + n + 2 = k + 1 by omega]
          have hacc2 : (acc ++ C).size + j ≤ 2 * k ∧ (acc ++ C).size + 1 ≤ k := by rw [ByteArray.size_append]; omega
          rcases hcc : (c' != c) with _ | _
          · have hcc' : c' = c := by simpa using hcc
            obtain ⟨hks, hgo2⟩ := hgo hcc'
            have HGO := Lib.hid hgo2; clear hgo2 hgo hend hc'
            have hks' : ¬ ((s.size : Int) ≤ (k : Int)) := by omega
            have hbb2 := fun w h1 h2 => build_byte g g (Lib.byteCells (acc ++ C).data.toList) c w h1 (by rw [bc_len]; omega) h2
            rw [← HMC.out, bc_snoc] at hbb2
            rw [HMC.out] at hbb2
            have HBB := Lib.hid hbb2; clear hbb2 hcc'
            go_wp2_with fail
            refine wp_region_gw (by kernel_rfl) (by kernel_rfl) ?_
            repeat (go_big_quiet_step (exact gw_quiet (HPK2.out _ ((HL3.out.at _).gw _))))
            refine wpQuiet_nil ?_
            rintro _ ⟨p4, rfl⟩
            have hb4 : b < w3.heap.size + p4.os.size := by omega
            have hB4 := IsB.kb (.inr HB3.out) (show Kb b w3 (gw (w3.setCell ⟨b, 1, none⟩ (.int .i64 (k : Int))) p4) by (with_reducible repeat (first | refine Kb.gw ?_ _ | refine Kb.setCell ?_ _ _ | refine Kb.alloc ?_ _ | refine Kb.drew ?_ | exact Kb.refl _ _ | exact HK.out))) hb1
            have hL4 : LexAt (gw (w3.setCell ⟨b, 1, none⟩ (.int .i64 (k : Int))) p4) b s (k : Int) t := (HL3.out.at _).gw _
            have hK4 : Kb b w (gw (w3.setCell ⟨b, 1, none⟩ (.int .i64 (k : Int))) p4) := by (with_reducible repeat (first | refine Kb.gw ?_ _ | refine Kb.setCell ?_ _ _ | refine Kb.alloc ?_ _ | refine Kb.drew ?_ | exact Kb.refl _ _ | exact HK.out))
            have hg4 : g ≤ (gw (w3.setCell ⟨b, 1, none⟩ (.int .i64 (k : Int))) p4).heap.size := Nat.le_trans hg3 (Kb.size (show Kb b w3 (gw (w3.setCell ⟨b, 1, none⟩ (.int .i64 (k : Int))) p4) by (with_reducible repeat (first | refine Kb.gw ?_ _ | refine Kb.setCell ?_ _ _ | refine Kb.alloc ?_ _ | refine Kb.drew ?_ | exact Kb.refl _ _ | exact HK.out))))
            have HB4 := Lib.hid hB4; clear hB4
            have HL4 := Lib.hid hL4; clear hL4
            have HK4 := Lib.hid hK4; clear hK4
            have HG4 := Lib.hid hg4; clear hg4
            go_wp2_with fail
            refine (HBB.out _ HB4.out HG4.out).mono ?_
            rintro e w5 ⟨rfl, hB5, hb5⟩
            have hL5 := LexAt.below HL4.out hb5 hb1
            have hK5 := Kb.below_from HK4.out hb5 hgw
            have HL5 := Lib.hid hL5; clear hL5
            have HK5 := Lib.hid hK5; clear hK5
            have HB5 := Lib.hid hB5; clear hB5
            have hg5 : g ≤ w5.heap.size := Nat.le_trans HG4.out hb5.size
            clear hb5
            go_wp2_with fail
            go_roundw
            case rel => exact ⟨k, acc ++ C ++ ⟨#[m]⟩, hks, by rw [ByteArray.size_append]; show _ + 1 ≤ _; omega, HL5.out, .inr HB5.out, hg5, HK5.out, HGO⟩
            case measure => rw [HLj.out.offAt, HL5.out.offAt]; omega
          · have hcc' : ¬ c' = c := by simpa using hcc
            have hR2 := hend hcc'
            have HR2 := Lib.hid hR2; clear hR2 hgo hend hc' hcc'
            go_wp2_with fail
            refine wp_region_gw (by kernel_rfl) (by kernel_rfl) ?_
            repeat (go_big_quiet_step (exact gw_quiet (HPK2.out _ ((HL3.out.at _).gw _))))
            refine wpQuiet_nil ?_
            rintro _ ⟨p4, rfl⟩
            have hb4 : b < w3.heap.size + p4.os.size := by omega
            have hB4 := IsB.kb (.inr HB3.out) (show Kb b w3 (gw (w3.setCell ⟨b, 1, none⟩ (.int .i64 (k : Int))) p4) by (with_reducible repeat (first | refine Kb.gw ?_ _ | refine Kb.setCell ?_ _ _ | refine Kb.alloc ?_ _ | refine Kb.drew ?_ | exact Kb.refl _ _ | exact HK.out))) hb1
            have hL4 : LexAt (gw (w3.setCell ⟨b, 1, none⟩ (.int .i64 (k : Int))) p4) b s (k : Int) t := (HL3.out.at _).gw _
            have hK4 : Kb b w (gw (w3.setCell ⟨b, 1, none⟩ (.int .i64 (k : Int))) p4) := by (with_reducible repeat (first | refine Kb.gw ?_ _ | refine Kb.setCell ?_ _ _ | refine Kb.alloc ?_ _ | refine Kb.drew ?_ | exact Kb.refl _ _ | exact HK.out))
            have hg4 : g ≤ (gw (w3.setCell ⟨b, 1, none⟩ (.int .i64 (k : Int))) p4).heap.size := Nat.le_trans hg3 (Kb.size (show Kb b w3 (gw (w3.setCell ⟨b, 1, none⟩ (.int .i64 (k : Int))) p4) by (with_reducible repeat (first | refine Kb.gw ?_ _ | refine Kb.setCell ?_ _ _ | refine Kb.alloc ?_ _ | refine Kb.drew ?_ | exact Kb.refl _ _ | exact HK.out))))
            have HB4 := Lib.hid hB4; clear hB4
            have HL4 := Lib.hid hL4; clear hL4
            have HK4 := Lib.hid hK4; clear hK4
            have HG4 := Lib.hid hg4; clear hg4
            have hstr : ∀ w, IsB g g (Lib.byteCells (acc ++ C).data.toList) w → g ≤ w.heap.size → Calls Tryz.prog 152 #[.pointer (some ⟨g, 0, none⟩)] w fun e w' => e = .returned (.string (acc ++ C)) ∧ Below g w w' := fun w h1 h2 => by
              have h := Tryz.Builder_String_any g g (acc ++ C).data.toList w h1 h2
              have e : (⟨(acc ++ C).data.toList.toArray⟩ : ByteArray) = acc ++ C := by rw [Array.toArray_toList]
              rw [e] at h
              exact h
            have HSTR := Lib.hid hstr; clear hstr
            go_wp2_with fail
            refine (HSTR.out _ HB4.out HG4.out).mono ?_
            rintro e w5 ⟨rfl, hb5⟩
            have hL5 := LexAt.below HL4.out hb5 hb1
            have hK5 := Kb.below_from HK4.out hb5 hgw
            clear d0 d1 d2 d3 d4 d5 hbb g0 g1 g2 g3 g4 g5
            obtain ⟨d0, d1, d2, d3, d4, d5, hbb, g0, g1, g2, g3, g4, g5⟩ := hL5.facts
            have HL5 := Lib.hid hL5; clear hL5
            have HK5 := Lib.hid hK5; clear hK5 hb5
            go_wp2_with fail
            go_ret2
            rw [← HQ.out, HR2.out]
            have HL := HL5
            have HK := HK5
            refine ⟨by (with_reducible repeat (first | refine Kb.gw ?_ _ | refine Kb.setCell ?_ _ _ | refine Kb.alloc ?_ _ | refine Kb.drew ?_ | exact Kb.refl _ _ | exact HK.out)), rfl, ?_⟩
            refine LexAt.cast (by (with_reducible repeat (first | apply LexAt.gw | apply LexAt.at | apply LexAt.kind | apply LexAt.text | apply LexAt.n | apply LexAt.off | apply LexAt.alloc | apply LexAt.drew | exact HL.out))) ?_ ?_
            · rfl
            · rfl
  · rw [if_neg (fun h => hF (h34.1 h))] at hQ
    subst hQ
    have n34 : (c != 34) = true := by simp; omega
    have n39 : (c != 39) = true := by simp; omega
    clear hF h34 hc8 hqp hm hc
    go_enter Tryz.func119, Tryz.ntmps119
    go_wp2_with fail
    refine (HPK.out _ HL.out).mono ?_
    rintro e w1 ⟨rfl, hb1⟩
    obtain ⟨p1, rfl⟩ := gw_of_below hb1
    clear hb1
    go_wp2_with fail
    go_ret2
    exact ⟨by (with_reducible repeat (first | refine Kb.gw ?_ _ | refine Kb.setCell ?_ _ _ | refine Kb.alloc ?_ _ | refine Kb.drew ?_ | exact Kb.refl _ _ | exact HK.out)), rfl, by (with_reducible repeat (first | apply LexAt.gw | apply LexAt.at | apply LexAt.kind | apply LexAt.text | apply LexAt.n | apply LexAt.off | apply LexAt.alloc | apply LexAt.drew | exact HL.out))⟩
end Go.Proofs.YtnjpfhihbjihbaaGreatDoor
