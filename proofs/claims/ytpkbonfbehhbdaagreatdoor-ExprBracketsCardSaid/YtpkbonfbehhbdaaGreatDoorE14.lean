/- Joined texts: LexP, Lex16, LexA. -/
import Derived.Test.YtpkbonfbehhbdaaGreatDoorE03
import Derived.Test.YtpkbonfbehhbdaaGreatDoorE05
import Derived.Test.YtpkbonfbehhbdaaGreatDoorE12
import Derived.Test.YtpkbonfbehhbdaaGreatDoorE13
/- The tokens of a line. No program in sight. -/
namespace Go.Proofs.YtpkbonfbehhbdaaGreatDoor
open Go.RowKit Go.Sort

/-- The string behind a mark: from an offset on, with what is read already; none if it does not end. -/
def quotedGo (s : ByteArray) (mark : UInt8) (i : Nat) (acc : ByteArray) : Option (ByteArray × Nat) :=
  if h : i < s.size then
    (if s[i] = mark then (if i + 1 < s.size ∧ bat s (i + 1) = mark then quotedGo s mark (i + 2) (acc ++ sub s i (i + 1)) else some (acc, i + 1)) else quotedGo s mark (i + 1) (acc ++ sub s i (i + 1)))
  else none
  termination_by s.size - i
def quotedP (s : ByteArray) (i : Nat) : Option (ByteArray × Nat) := quotedGo s (bat s i) (i + 1) ⟨#[]⟩
theorem quotedGo_out (s : ByteArray) (m : UInt8) (i : Nat) (acc : ByteArray) (h : ¬ i < s.size) : quotedGo s m i acc = none := by
  rw [quotedGo, dif_neg h]
theorem quotedGo_step (s : ByteArray) (m : UInt8) (i : Nat) (acc : ByteArray) (h : i < s.size) (hm : s[i] ≠ m) : quotedGo s m i acc = quotedGo s m (i + 1) (acc ++ sub s i (i + 1)) := by
  rw [quotedGo, dif_pos h, if_neg hm]
theorem quotedGo_two (s : ByteArray) (m : UInt8) (i : Nat) (acc : ByteArray) (h : i < s.size) (hm : s[i] = m) (h2 : i + 1 < s.size) (hm2 : bat s (i + 1) = m) : quotedGo s m i acc = quotedGo s m (i + 2) (acc ++ sub s i (i + 1)) := by
  rw [quotedGo, dif_pos h, if_pos hm, if_pos ⟨h2, hm2⟩]
theorem quotedGo_end (s : ByteArray) (m : UInt8) (i : Nat) (acc : ByteArray) (h : i < s.size) (hm : s[i] = m) (h2 : ¬ (i + 1 < s.size ∧ bat s (i + 1) = m)) : quotedGo s m i acc = some (acc, i + 1) := by
  rw [quotedGo, dif_pos h, if_pos hm, if_neg h2]
theorem quotedGo_bd (s : ByteArray) (m : UInt8) (i : Nat) (acc t : ByteArray) (n : Nat) (h : quotedGo s m i acc = some (t, n)) : i < n ∧ n ≤ s.size ∧ t.size + i ≤ acc.size + n := by
  by_cases h1 : i < s.size
  · by_cases h2 : s[i] = m
    · by_cases h3 : i + 1 < s.size ∧ bat s (i + 1) = m
      · rw [quotedGo_two s m i acc h1 h2 h3.1 h3.2] at h
        have := quotedGo_bd s m (i + 2) _ t n h
        rw [ByteArray.size_append, ByteArray.size_extract] at this
        omega
      · rw [quotedGo_end s m i acc h1 h2 h3] at h
        simp only [Option.some.injEq, Prod.mk.injEq] at h
        obtain ⟨rfl, rfl⟩ := h
        omega
    · rw [quotedGo_step s m i acc h1 h2] at h
      have := quotedGo_bd s m (i + 1) _ t n h
      rw [ByteArray.size_append, ByteArray.size_extract] at this
      omega
  · rw [quotedGo_out s m i acc h1] at h; cases h
  termination_by s.size - i

theorem wordEnd_le (s : ByteArray) (i : Nat) (hi : i ≤ s.size) : wordEnd s i ≤ s.size := by
  have := runEnd_le s i hi
  unfold wordEnd
  repeat' split
  all_goals omega
theorem signLen_le (s : ByteArray) (i : Nat) (hi : i < s.size) : i + signLen s i ≤ s.size ∧ signLen s i ≤ 2 := by
  unfold signLen
  repeat' split
  all_goals omega

/-- Whether a number begins at an offset. -/
def isNumAt (s : ByteArray) (i : Nat) : Bool := isDig (bat s i) || bat s i == 37 || (bat s i == 36 && decide (i + 1 < runEnd s (i + 1)))
/-- The token at an offset, and the offset behind it. -/
def nextP (s : ByteArray) (i : Nat) : Except Int (Tok × Nat) :=
  if i < wordEnd s i then .ok (⟨1, sub s i (wordEnd s i), 0, i⟩, wordEnd s i)
  else if isNumAt s i = true then (match numP (sub s i (runEnd s (i + 1))) with | some x => .ok (⟨2, ⟨#[]⟩, x, i⟩, runEnd s (i + 1)) | none => .error 3)
  else if bat s i = 34 ∨ bat s i = 39 then (match quotedP s i with | some (t, e) => .ok (⟨3, t, 0, i⟩, e) | none => .error 3)
  else if signLen s i = 0 then .error 20 else .ok (⟨4, sub s i (i + signLen s i), 0, i⟩, i + signLen s i)
theorem nextP_bd (s : ByteArray) (i : Nat) (hi : i < s.size) (t : Tok) (n : Nat) (h : nextP s i = .ok (t, n)) : i < n ∧ n ≤ s.size ∧ t.text.size ≤ s.size ∧ 0 ≤ t.n ∧ t.n ≤ 65535 := by
  have h1 := wordEnd_le s i (by omega)
  have h2 := runEnd_le s (i + 1) (by omega)
  have h2' := runEnd_ge s (i + 1)
  have h3 := signLen_le s i hi
  unfold nextP at h
  split at h
  · cases h; simp only; rw [ByteArray.size_extract]; omega
  · split at h
    · split at h
      · rename_i x hx
        cases h
        have := numU_le (u := (upper (sub s i (runEnd s (i + 1)))).data.toList) (m := x) hx
        simp only
        exact ⟨by omega, h2, Nat.zero_le _, by omega, by omega⟩
      · cases h
    · split at h
      · split at h
        · rename_i t' e' hq
          cases h
          have := quotedGo_bd s _ _ _ _ _ hq
          simp only
          have hz : (⟨#[]⟩ : ByteArray).size = 0 := rfl
          rw [hz] at this
          refine ⟨?_, ?_, ?_, ?_, ?_⟩ <;> omega
        · cases h
      · split at h
        · cases h
        · cases h; simp only; rw [ByteArray.size_extract]; omega

theorem nextP_err (s : ByteArray) (i : Nat) (e : Int) (h : nextP s i = .error e) : e = 3 ∨ e = 20 := by
  unfold nextP at h
  split at h
  · cases h
  · split at h
    · split at h
      · cases h
      · cases h; exact .inl rfl
    · split at h
      · split at h
        · cases h
        · cases h; exact .inl rfl
      · split at h
        · cases h; exact .inr rfl
        · cases h

/-- Whether a token begins at an offset (no end, no remark). -/
def moreAt (s : ByteArray) (i : Nat) : Bool := decide (i < s.size) && bat s i != 59
/-- The tokens from an offset on, with those read already. -/
def toksGo (s : ByteArray) (i : Nat) (acc : List Tok) : Except Int (List Tok) :=
  if moreAt s (skipEnd s i) = true then
    (match nextP s (skipEnd s i) with
    | .error e => .error e
    | .ok (t, n) => if i < n ∧ n ≤ s.size then toksGo s n (acc ++ [t]) else .error 99)
  else .ok (acc ++ [⟨0, ⟨#[]⟩, 0, skipEnd s i⟩])
  termination_by s.size - i
def toksP (s : ByteArray) : Except Int (List Tok) := if 1024 < s.size then .error 19 else toksGo s 0 []
theorem toksGo_end (s : ByteArray) (i : Nat) (acc : List Tok) (h : moreAt s (skipEnd s i) = false) : toksGo s i acc = .ok (acc ++ [⟨0, ⟨#[]⟩, 0, skipEnd s i⟩]) := by
  rw [toksGo, if_neg (by rw [h]; decide)]
theorem toksGo_err (s : ByteArray) (i : Nat) (acc : List Tok) (e : Int) (h : moreAt s (skipEnd s i) = true) (hn : nextP s (skipEnd s i) = .error e) : toksGo s i acc = .error e := by
  rw [toksGo, if_pos h, hn]
theorem moreAt_lt {s : ByteArray} {i : Nat} (h : moreAt s i = true) : i < s.size := by
  unfold moreAt at h; simp at h; exact h.1
theorem toksGo_step (s : ByteArray) (i : Nat) (acc : List Tok) (t : Tok) (n : Nat) (h : moreAt s (skipEnd s i) = true) (hn : nextP s (skipEnd s i) = .ok (t, n)) : toksGo s i acc = toksGo s n (acc ++ [t]) := by
  have hl := moreAt_lt h
  have hb := nextP_bd s _ hl t n hn
  have hg := skipEnd_ge s i
  rw [toksGo, if_pos h, hn]
  simp only
  rw [if_pos ⟨by omega, hb.2.1⟩]
/-- What is promised of the tokens of a line. -/
theorem toksGo_all (s : ByteArray) (i : Nat) (acc l : List Tok) (h : toksGo s i acc = .ok l) (p : Tok → Prop) (ha : ∀ t ∈ acc, p t) (he : ∀ j : Nat, p ⟨0, ⟨#[]⟩, 0, j⟩) (hp : ∀ (j n : Nat) t, j < s.size → nextP s j = .ok (t, n) → p t) : ∀ t ∈ l, p t := by
  by_cases h1 : moreAt s (skipEnd s i) = true
  · cases hn : nextP s (skipEnd s i) with
    | error e => rw [toksGo_err s i acc e h1 hn] at h; cases h
    | ok x =>
      obtain ⟨t, n⟩ := x
      have hl := moreAt_lt h1
      have hb := nextP_bd s _ hl t n hn
      have hg := skipEnd_ge s i
      rw [toksGo_step s i acc t n h1 hn] at h
      refine toksGo_all s n (acc ++ [t]) l h p ?_ he hp
      intro u hu
      rcases List.mem_append.1 hu with hu | hu
      · exact ha u hu
      · rw [List.mem_singleton] at hu; subst hu; exact hp _ _ _ hl hn
  · rw [toksGo_end s i acc (by simpa using h1)] at h
    cases h
    intro u hu
    rcases List.mem_append.1 hu with hu | hu
    · exact ha u hu
    · rw [List.mem_singleton] at hu; subst hu; exact he _
  termination_by s.size - i
theorem toksGo_len (s : ByteArray) (i : Nat) (acc l : List Tok) (hi : i ≤ s.size) (h : toksGo s i acc = .ok l) : acc.length + 1 ≤ l.length ∧ l.length + i ≤ acc.length + 1 + s.size := by
  by_cases h1 : moreAt s (skipEnd s i) = true
  · cases hn : nextP s (skipEnd s i) with
    | error e => rw [toksGo_err s i acc e h1 hn] at h; cases h
    | ok x =>
      obtain ⟨t, n⟩ := x
      have hl := moreAt_lt h1
      have hb := nextP_bd s _ hl t n hn
      have hg := skipEnd_ge s i
      rw [toksGo_step s i acc t n h1 hn] at h
      have := toksGo_len s n (acc ++ [t]) l hb.2.1 h
      simp only [List.length_append, List.length_singleton] at this
      omega
  · rw [toksGo_end s i acc (by simpa using h1)] at h
    cases h
    simp only [List.length_append, List.length_singleton]
    omega
  termination_by s.size - i
end Go.Proofs.YtpkbonfbehhbdaaGreatDoor

/- The reference's lexer: letters, digits, runs. -/
namespace Go.Proofs.YtpkbonfbehhbdaaGreatDoor
open Go.RowKit Go.Sort

theorem isLet_iff (c : UInt8) : isLet c = decide ((97 ≤ (c.toNat : Int) ∧ (c.toNat : Int) ≤ 122) ∨ (65 ≤ (c.toNat : Int) ∧ (c.toNat : Int) ≤ 90) ∨ (c.toNat : Int) = 95 ∨ (c.toNat : Int) = 46 ∨ (c.toNat : Int) = 63 ∨ (c.toNat : Int) = 64) := by
  have h : ∀ k : UInt8, (c == k) = decide ((c.toNat : Int) = k.toNat) := fun k => by
    by_cases e : c = k
    · subst e; simp
    · have e2 : ¬ c.toNat = k.toNat := fun h => e (UInt8.toNat_inj.1 h)
      rw [beq_eq_false_iff_ne.2 e, eq_comm, decide_eq_false_iff_not]; omega
  unfold isLet
  rw [h, h, h, h, Bool.eq_iff_iff]
  simp only [Bool.or_eq_true, decide_eq_true_eq]
  show _ ↔ _
  have e1 : (95 : UInt8).toNat = 95 := rfl
  have e2 : (46 : UInt8).toNat = 46 := rfl
  have e3 : (63 : UInt8).toNat = 63 := rfl
  have e4 : (64 : UInt8).toNat = 64 := rfl
  rw [e1, e2, e3, e4]
  omega

set_option maxHeartbeats 400000 in
theorem letter16_any (c : UInt8) (w : World) :
    Calls Tryz.prog 118 #[.int .u8 (c.toNat : Int)] w fun e w' => e = .returned (.bool (isLet c)) ∧ w = w' := by
  rw [isLet_iff]
  have h0 : (c.toNat : Int) ≤ 255 := by have := c.toNat_lt; omega
  generalize (c.toNat : Int) = n at h0
  go_enter Tryz.func118, Tryz.ntmps118
  go_wp2
  all_goals
    go_ret
    refine ⟨?_, rfl⟩
    simp
    try (rw [Bool.eq_iff_iff]; simp)
    try omega

set_option maxHeartbeats 400000 in
theorem digit16_any (c : UInt8) (w : World) :
    Calls Tryz.prog 94 #[.int .u8 (c.toNat : Int)] w fun e w' => e = .returned (.bool (isDig c)) ∧ w = w' := by
  have hd : isDig c = decide (48 ≤ (c.toNat : Int) ∧ (c.toNat : Int) ≤ 57) := by
    unfold isDig; rw [decide_eq_decide]; omega
  rw [hd]
  generalize (c.toNat : Int) = n
  go_enter Tryz.func94, Tryz.ntmps94
  go_wp2
  all_goals
    go_ret
    refine ⟨?_, rfl⟩
    simp
    try (rw [Bool.eq_iff_iff]; simp)
    try omega

set_option maxHeartbeats 400000 in
theorem run16_any (s : ByteArray) (i : Nat) (w : World) (hi : i ≤ s.size) (hs : s.size ≤ 1000000) :
    Calls Tryz.prog 93 #[.string s, .int .i64 i] w fun e w' => e = .returned (.int .i64 (runEnd s i : Nat)) ∧ w = w' := by
  obtain ⟨R, hR⟩ : ∃ R, runEnd s i = R := ⟨_, rfl⟩
  rw [hR]
  have HR := Lib.hid hR; clear hR
  go_enter Tryz.func93, Tryz.ntmps93
  go_wp2_with fail
  go_loopw [1] (fun v wr => ∃ k : Nat, k ≤ s.size ∧ v = .int .i64 k ∧ Hid (runEnd s k = R) ∧ wr = w) (fun v _ => s.size - (intOf v).toNat)
  case atStart => exact ⟨i, hi, rfl, HR, rfl⟩
  case round =>
    obtain ⟨k, hk, rfl, HK, rfl⟩ := hrel
    by_cases hlt : k < s.size
    · have hi0 : (0 : Int) ≤ (k : Int) := by omega
      have hi1 : (k : Int) < (s.size : Int) := by omega
      have hrg := runEnd_go s k hlt
      have hrn := runEnd_no s k hlt
      have hl := fun w => letter16_any s[k] w
      have hd := fun w => digit16_any s[k] w
      have hw : isW s[k] = (isLet s[k] || isDig s[k]) := rfl
      rcases hb : isLet s[k] with _ | _
      · rcases hb2 : isDig s[k] with _ | _
        · rw [hb] at hl; rw [hb2] at hd; rw [hb, hb2] at hw
          have Hn := Lib.hid (hrn hw); clear hrg hrn hw hb hb2
          have HL := Lib.hid hl; clear hl
          have HD := Lib.hid hd; clear hd
          go_wp2_with fail
          refine (HL.out _).mono ?_
          rintro e w1 ⟨rfl, rfl⟩
          go_wp2_with fail
          refine (HD.out _).mono ?_
          rintro e w1 ⟨rfl, rfl⟩
          go_wp2_with fail
          go_ret
          exact ⟨by rw [← HK.out, Hn.out]; rfl, rfl⟩
        · rw [hb] at hl; rw [hb2] at hd; rw [hb, hb2] at hw
          have Hn := Lib.hid (hrg hw); clear hrg hrn hw hb hb2
          have HL := Lib.hid hl; clear hl
          have HD := Lib.hid hd; clear hd
          go_wp2_with fail
          refine (HL.out _).mono ?_
          rintro e w1 ⟨rfl, rfl⟩
          go_wp2_with fail
          refine (HD.out _).mono ?_
          rintro e w1 ⟨rfl, rfl⟩
          go_wp2_with fail
          go_roundw
          case rel => exact ⟨k + 1, by omega, by go_num, Lib.hid (by rw [← Hn.out]; exact HK.out), by trivial⟩
          case measure => simp [intOf]; omega
      · rw [hb] at hl; rw [hb] at hw
        have Hn := Lib.hid (hrg (by rw [hw]; rfl)); clear hrg hrn hw hb hd
        have HL := Lib.hid hl; clear hl
        go_wp2_with fail
        refine (HL.out _).mono ?_
        rintro e w1 ⟨rfl, rfl⟩
        go_wp2_with fail
        go_roundw
        case rel => exact ⟨k + 1, by omega, by go_num, Lib.hid (by rw [← Hn.out]; exact HK.out), by trivial⟩
        case measure => simp [intOf]; omega
    · have hno := Lib.hid (runEnd_out s k hlt)
      obtain rfl : k = s.size := by omega
      go_wp2_with fail
      go_ret
      exact ⟨by rw [← HK.out, hno.out]; rfl, rfl⟩
end Go.Proofs.YtpkbonfbehhbdaaGreatDoor

/- The program's lexer: bytes, and the cursor's readers. -/
namespace Go.Proofs.YtpkbonfbehhbdaaGreatDoor
open Go.RowKit Go.Sort

/-- The lexer as it lies in memory: the line, the offset, the token. -/
def LexAt (w : World) (b : Nat) (s : ByteArray) (i : Int) (t : Tok) : Prop :=
  w.heap[b]? = some (.cells #[.string s, .int .i64 i, .int .i64 t.kind, .string t.text, .int .i64 t.n, .int .i64 t.off] 123 (0, 0))
theorem LexAt.facts {w : World} {b : Nat} {s : ByteArray} {i : Int} {t : Tok} (h : LexAt w b s i t) :
    w.cell? ⟨b, 0, none⟩ = some (.string s) ∧ w.cell? ⟨b, 1, none⟩ = some (.int .i64 i) ∧ w.cell? ⟨b, 2, none⟩ = some (.int .i64 t.kind) ∧ w.cell? ⟨b, 3, none⟩ = some (.string t.text) ∧ w.cell? ⟨b, 4, none⟩ = some (.int .i64 t.n) ∧ w.cell? ⟨b, 5, none⟩ = some (.int .i64 t.off) ∧ b < w.heap.size ∧
    (w.frozen? ⟨b, 0, none⟩ = false ∧ w.frozen? ⟨b, 1, none⟩ = false ∧ w.frozen? ⟨b, 2, none⟩ = false ∧ w.frozen? ⟨b, 3, none⟩ = false ∧ w.frozen? ⟨b, 4, none⟩ = false ∧ w.frozen? ⟨b, 5, none⟩ = false) := by
  unfold LexAt at h
  refine ⟨?_, ?_, ?_, ?_, ?_, ?_, lt_of_block h, ?_, ?_, ?_, ?_, ?_, ?_⟩ <;> simp [World.cell?, World.frozen?, h]
theorem LexAt.of_kb {w w' : World} {b : Nat} {s : ByteArray} {i : Int} {t : Tok} (h : LexAt w b s i t) (hb : Below w.heap.size w w') : LexAt w' b s i t := by
  unfold LexAt at *
  rw [hb.block b (lt_of_block h)]
  exact h
theorem LexAt.gw {w : World} {b : Nat} {s : ByteArray} {i : Int} {t : Tok} (h : LexAt w b s i t) (p : Regrown) : LexAt (gw w p) b s i t := by
  unfold LexAt at *
  rw [(below_gw w p).block b (lt_of_block h)]
  exact h
theorem LexAt.alloc {w : World} {b : Nat} {s : ByteArray} {i : Int} {t : Tok} (h : LexAt w b s i t) (o : Obj) : LexAt (w.alloc o) b s i t := by
  unfold LexAt at *
  rw [Below.heap_alloc w o b (lt_of_block h)]
  exact h
theorem LexAt.drew {w : World} {b : Nat} {s : ByteArray} {i : Int} {t : Tok} (h : LexAt w b s i t) : LexAt w.drew b s i t := h
theorem LexAt.at {w : World} {b : Nat} {s : ByteArray} {i : Int} {t : Tok} (h : LexAt w b s i t) (j : Int) : LexAt (w.setCell ⟨b, 1, none⟩ (.int .i64 j)) b s j t := by
  unfold LexAt at *
  simp [World.setCell, Array.getElem?_modify, h]
theorem LexAt.kind {w : World} {b : Nat} {s : ByteArray} {i : Int} {t : Tok} (h : LexAt w b s i t) (j : Int) : LexAt (w.setCell ⟨b, 2, none⟩ (.int .i64 j)) b s i { t with kind := j } := by
  unfold LexAt at *
  simp [World.setCell, Array.getElem?_modify, h]
theorem LexAt.text {w : World} {b : Nat} {s : ByteArray} {i : Int} {t : Tok} (h : LexAt w b s i t) (j : ByteArray) : LexAt (w.setCell ⟨b, 3, none⟩ (.string j)) b s i { t with text := j } := by
  unfold LexAt at *
  simp [World.setCell, Array.getElem?_modify, h]
theorem LexAt.n {w : World} {b : Nat} {s : ByteArray} {i : Int} {t : Tok} (h : LexAt w b s i t) (j : Int) : LexAt (w.setCell ⟨b, 4, none⟩ (.int .i64 j)) b s i { t with n := j } := by
  unfold LexAt at *
  simp [World.setCell, Array.getElem?_modify, h]
theorem LexAt.off {w : World} {b : Nat} {s : ByteArray} {i : Int} {t : Tok} (h : LexAt w b s i t) (j : Int) : LexAt (w.setCell ⟨b, 5, none⟩ (.int .i64 j)) b s i { t with off := j } := by
  unfold LexAt at *
  simp [World.setCell, Array.getElem?_modify, h]

set_option maxHeartbeats 400000 in
theorem isDigit_any (c : UInt8) (w : World) :
    Calls Tryz.prog 124 #[.int .u8 (c.toNat : Int)] w fun e w' => e = .returned (.bool (isDig c)) ∧ w = w' := by
  have hd : isDig c = decide (48 ≤ (c.toNat : Int) ∧ (c.toNat : Int) ≤ 57) := by
    unfold isDig; rw [decide_eq_decide]; omega
  rw [hd]
  generalize (c.toNat : Int) = n
  go_enter Tryz.func124, Tryz.ntmps124
  go_wp2
  all_goals
    go_ret
    refine ⟨?_, rfl⟩
    simp
    try (rw [Bool.eq_iff_iff]; simp)
    try omega

theorem capIdx : ∀ n : Fin 256, isLet (UInt8.ofNat n.val) = ((decide (65 ≤ bits BinOp.andNot IntKind.u8 (n.val : Int) 32) && decide (bits BinOp.andNot IntKind.u8 (n.val : Int) 32 ≤ 90)) || decide (0 ≤ Lib.indexByte [95, 46, 63, 64] (UInt8.ofNat n.val))) := by decide +kernel

set_option maxHeartbeats 1000000 in
theorem isLetter_any (c : UInt8) (w : World) :
    Calls Tryz.prog 122 #[.int .u8 (c.toNat : Int)] w fun e w' => e = .returned (.bool (isLet c)) ∧ w = w' := by
  have hc := capIdx ⟨c.toNat, c.toNat_lt⟩
  simp only [UInt8.ofNat_toNat] at hc
  have hidx := fun w => Tryz.strings_IndexByte ⟨#[95, 46, 63, 64]⟩ (c.toNat : Int) w
  have e1 : ((c.toNat : Int).toNat.toUInt8) = c := by rw [Int.toNat_natCast]; exact UInt8.ofNat_toNat
  simp only [e1] at hidx
  obtain ⟨q, hq⟩ : ∃ q, Lib.indexByte [95, 46, 63, 64] c = q := ⟨_, rfl⟩
  obtain ⟨u, hu⟩ : ∃ u, bits BinOp.andNot IntKind.u8 (c.toNat : Int) 32 = u := ⟨_, rfl⟩
  rw [hq, hu] at hc
  simp only [hq] at hidx
  rw [hc]
  have HI := Lib.hid hidx; clear hidx hc e1 hq
  go_enter Tryz.func122, Tryz.ntmps122
  go_wp2_with (refine (HI.out _).mono ?_; rintro e w1 ⟨rfl, rfl⟩)
  all_goals
    go_ret
    refine ⟨?_, rfl⟩
    simp [*]
    try (rw [Bool.eq_iff_iff]; simp [*])
    try omega

set_option maxHeartbeats 1000000 in
set_option maxRecDepth 100000 in
theorem peek_any (s : ByteArray) (i b : Nat) (t : Tok) (w : World) (hL : LexAt w b s i t) :
    Calls Tryz.prog 105 #[.pointer (some ⟨b, 0, none⟩)] w fun e w' => e = .returned (.int .u8 ((bat s i).toNat : Int)) ∧ Below w.heap.size w w' := by
  obtain ⟨c0, c1, _, _, _, _, hb, _⟩ := hL.facts
  have hi0 : (0 : Int) ≤ (i : Int) := by omega
  clear hL
  by_cases hlt : i < s.size
  · have hi1 : (i : Int) < (s.size : Int) := by omega
    have hbat := bat_get s i hlt
    obtain ⟨c, hc⟩ : ∃ c, bat s i = c := ⟨_, rfl⟩
    rw [hc] at hbat ⊢
    have hbt : (s[i].toNat : Int) = (c.toNat : Int) := by rw [hbat]
    clear hbat hc
    generalize (c.toNat : Int) = x at hbt ⊢
    go_enter Tryz.func105, Tryz.ntmps105
    go_wp2_with fail
    refine wp_region_gw (by kernel_rfl) (by kernel_rfl) ?_
    repeat (go_big_quiet_step (fail))
    refine wpQuiet_nil ?_
    rintro _ ⟨p1, rfl⟩
    have hb1 : b < w.heap.size + p1.os.size := by omega
    go_wp2_with fail
    refine wp_region_gw (by kernel_rfl) (by kernel_rfl) ?_
    repeat (go_big_quiet_step (fail))
    refine wpQuiet_nil ?_
    rintro _ ⟨p2, rfl⟩
    go_wp2_with fail
    go_ret
    exact ⟨by rw [← hbt]; rfl, by (repeat (first | exact Below.refl _ _ | refine Below.drew ?_ | (refine below_gw' ?_ (by first | omega | (simp [go_sem]; done) | (simp [go_sem]; omega)) _) | (refine Below.alloc ?_ (by first | omega | (simp [go_sem]; done) | (simp [go_sem]; omega)) _) | (refine Below.setCell ?_ (by first | omega | (simp [go_sem]; done) | (simp [go_sem]; omega)) _)))⟩
  · have hi1 : ¬ (i : Int) < (s.size : Int) := by omega
    have hz : bat s i = 0 := by unfold bat; rw [Array.getElem?_eq_none (by show s.data.size ≤ i; have : s.data.size = s.size := rfl; omega)]; rfl
    rw [hz]
    clear hz
    go_enter Tryz.func105, Tryz.ntmps105
    go_wp2_with fail
    refine wp_region_gw (by kernel_rfl) (by kernel_rfl) ?_
    repeat (go_big_quiet_step (fail))
    refine wpQuiet_nil ?_
    rintro _ ⟨p1, rfl⟩
    go_wp2_with fail
    go_ret
    exact ⟨rfl, by (repeat (first | exact Below.refl _ _ | refine Below.drew ?_ | (refine below_gw' ?_ (by first | omega | (simp [go_sem]; done) | (simp [go_sem]; omega)) _) | (refine Below.alloc ?_ (by first | omega | (simp [go_sem]; done) | (simp [go_sem]; omega)) _) | (refine Below.setCell ?_ (by first | omega | (simp [go_sem]; done) | (simp [go_sem]; omega)) _)))⟩

set_option maxHeartbeats 1000000 in
set_option maxRecDepth 100000 in
theorem rest_any (s : ByteArray) (i b : Nat) (t : Tok) (w : World) (hL : LexAt w b s i t) (hi : i ≤ s.size) :
    Calls Tryz.prog 127 #[.pointer (some ⟨b, 0, none⟩)] w fun e w' => e = .returned (.string (sub s i s.size)) ∧ Below w.heap.size w w' := by
  obtain ⟨c0, c1, _, _, _, _, hb, _⟩ := hL.facts
  have hi0 : (0 : Int) ≤ (i : Int) := by omega
  have hi1 : (i : Int) ≤ (s.size : Int) := by omega
  clear hL
  go_enter Tryz.func127, Tryz.ntmps127
  go_wp2_with fail
  refine wp_region_gw (by kernel_rfl) (by kernel_rfl) ?_
  repeat (go_big_quiet_step (fail))
  refine wpQuiet_nil ?_
  rintro _ ⟨p1, rfl⟩
  go_wp2_with fail
  go_ret
  exact ⟨rfl, by (repeat (first | exact Below.refl _ _ | refine Below.drew ?_ | (refine below_gw' ?_ (by first | omega | (simp [go_sem]; done) | (simp [go_sem]; omega)) _) | (refine Below.alloc ?_ (by first | omega | (simp [go_sem]; done) | (simp [go_sem]; omega)) _) | (refine Below.setCell ?_ (by first | omega | (simp [go_sem]; done) | (simp [go_sem]; omega)) _)))⟩

/-- Where a run of letters and digits ends: in a loop. -/
theorem isW_eq (c : UInt8) : isW c = (isLet c || isDig c) := rfl
theorem LexAt.cong {w : World} {b : Nat} {s : ByteArray} {i j : Int} {t : Tok} (h : LexAt w b s i t) (e : i = j) : LexAt w b s j t := e ▸ h

/-- The offset that a lexer stands at. -/
def offAt (w : World) (b : Nat) : Int := match w.cell? ⟨b, 1, none⟩ with | some v => intOf v | none => 0
theorem LexAt.offAt {w : World} {b : Nat} {s : ByteArray} {i : Int} {t : Tok} (h : LexAt w b s i t) : offAt w b = i := by
  unfold Proofs.YtpkbonfbehhbdaaGreatDoor.offAt
  rw [h.facts.2.1]; rfl

set_option maxHeartbeats 2000000 in
set_option maxRecDepth 100000 in
theorem run_any (s : ByteArray) (i b : Nat) (t : Tok) (w : World) (hL : LexAt w b s i t) (hi : i ≤ s.size) (hs : s.size ≤ 1000000) :
    Calls Tryz.prog 123 #[.pointer (some ⟨b, 0, none⟩)] w fun e w' => e = .returned (.string (sub s i (runEnd s i))) ∧ LexAt w' b s (runEnd s i : Nat) t ∧ Kb b w w' := by
  obtain ⟨R, hR⟩ : ∃ R, runEnd s i = R := ⟨_, rfl⟩
  have hR1 := runEnd_ge s i
  have hR2 := runEnd_le s i hi
  rw [hR] at hR1 hR2 ⊢
  have HR := Lib.hid hR; clear hR
  have hi0 : (0 : Int) ≤ (i : Int) := by omega
  have hiR : (i : Int) ≤ (R : Int) := by omega
  have hRs : (R : Int) ≤ (s.size : Int) := by omega
  obtain ⟨c0, c1, _, _, _, _, hb, _⟩ := hL.facts
  have HL := Lib.hid hL; clear hL
  go_enter Tryz.func123, Tryz.ntmps123
  go_wp2_with fail
  clear c0 c1 hb
  go_loopw [] (fun wr => ∃ k : Nat, i ≤ k ∧ k ≤ s.size ∧ LexAt wr b s k t ∧ Kb b w wr ∧ Hid (runEnd s k = R)) (fun wr => s.size - (offAt wr b).toNat)
  case atStart => exact ⟨i, Nat.le_refl _, hi, HL.out, Kb.refl _ _, HR⟩
  case round =>
    obtain ⟨k, hik, hk, hLk, hkb, HK⟩ := hrel
    have hik' : (i : Int) ≤ (k : Int) := by omega
    have hks' : (k : Int) ≤ (s.size : Int) := by omega
    obtain ⟨c0, c1, _, _, _, _, hb, _, f1, _⟩ := hLk.facts
    have hw : k < s.size → isW s[k]! = isW s[k]! := fun _ => rfl
    have hk0 : (0 : Int) ≤ (k : Int) := by omega
    have HLk := Lib.hid hLk; clear hLk hw
    have HKB := Lib.hid hkb; clear hkb
    by_cases hlt : k < s.size
    · have hk1 : (k : Int) < (s.size : Int) := by omega
      have hbk := bat_get s k hlt
      have hl := fun w => isLetter_any (bat s k) w
      have hd := fun w => isDigit_any (bat s k) w
      rcases h1 : isLet (bat s k) with _ | _
      · rcases h2 : isDig (bat s k) with _ | _
        · have hst := runEnd_no s k hlt (by rw [isW_eq, hbk, h1, h2]; rfl)
          rw [h1] at hl; rw [h2] at hd
          have HST := Lib.hid (HK.out.symm.trans hst); clear hst h1 h2 hbk
          have HLET := Lib.hid hl; clear hl
          have HDIG := Lib.hid hd; clear hd
          go_wp2_with fail
          refine wp_region_gw (by kernel_rfl) (by kernel_rfl) ?_
          repeat (go_big_quiet_step (first | exact gw_quiet (peek_any s k b t _ (HLk.out.gw _)) | exact gw_quiet_same (HLET.out _) | exact gw_quiet_same (HDIG.out _)))
          refine wpQuiet_nil ?_
          rintro _ ⟨p1, rfl⟩
          have hb1 : b < wr.heap.size + p1.os.size := by omega
          go_wp2_with fail
          refine wp_region_gw (by kernel_rfl) (by kernel_rfl) ?_
          repeat (go_big_quiet_step (fail))
          refine wpQuiet_nil ?_
          rintro _ ⟨p2, rfl⟩
          go_wp2_with fail
          go_ret
          obtain rfl : R = k := HST.out
          exact ⟨rfl, (HLk.out.gw _).gw _, (HKB.out.gw _).gw _⟩
        · have hst := runEnd_go s k hlt (by rw [isW_eq, hbk, h1, h2]; rfl)
          rw [h1] at hl; rw [h2] at hd
          have HST := Lib.hid (hst.symm.trans HK.out); clear hst h1 h2 hbk
          have HLET := Lib.hid hl; clear hl
          have HDIG := Lib.hid hd; clear hd
          go_wp2_with fail
          refine wp_region_gw (by kernel_rfl) (by kernel_rfl) ?_
          repeat (go_big_quiet_step (first | exact gw_quiet (peek_any s k b t _ (HLk.out.gw _)) | exact gw_quiet_same (HLET.out _) | exact gw_quiet_same (HDIG.out _)))
          refine wpQuiet_nil ?_
          rintro _ ⟨p1, rfl⟩
          go_wp2_with fail
          go_roundw
          case rel => exact ⟨k + 1, by omega, by omega, (((HLk.out.at _).cong (by go_num)).gw _), ((HKB.out.setCell 1 _).gw _), HST⟩
          case measure => rw [HLk.out.offAt, ((HLk.out.at ((k : Int) + 1)).gw p1).offAt]; omega
      · have hst := runEnd_go s k hlt (by rw [isW_eq, hbk, h1]; rfl)
        rw [h1] at hl
        have HST := Lib.hid (hst.symm.trans HK.out); clear hst h1 hbk hd
        have HLET := Lib.hid hl; clear hl
        go_wp2_with fail
        refine wp_region_gw (by kernel_rfl) (by kernel_rfl) ?_
        repeat (go_big_quiet_step (first | exact gw_quiet (peek_any s k b t _ (HLk.out.gw _)) | exact gw_quiet_same (HLET.out _)))
        refine wpQuiet_nil ?_
        rintro _ ⟨p1, rfl⟩
        go_wp2_with fail
        go_roundw
        case rel => exact ⟨k + 1, by omega, by omega, (((HLk.out.at _).cong (by go_num)).gw _), ((HKB.out.setCell 1 _).gw _), HST⟩
        case measure => rw [HLk.out.offAt, ((HLk.out.at ((k : Int) + 1)).gw p1).offAt]; omega
    · obtain rfl : k = s.size := by omega
      have hst := runEnd_out s _ hlt
      have HST := Lib.hid (HK.out.symm.trans hst); clear hst
      go_wp2_with fail
      refine wp_region_gw (by kernel_rfl) (by kernel_rfl) ?_
      repeat (go_big_quiet_step (fail))
      refine wpQuiet_nil ?_
      rintro _ ⟨p1, rfl⟩
      have hb1 : b < wr.heap.size + p1.os.size := by omega
      go_wp2_with fail
      refine wp_region_gw (by kernel_rfl) (by kernel_rfl) ?_
      repeat (go_big_quiet_step (fail))
      refine wpQuiet_nil ?_
      rintro _ ⟨p2, rfl⟩
      go_wp2_with fail
      go_ret
      obtain rfl : R = s.size := HST.out
      exact ⟨rfl, (HLk.out.gw _).gw _, (HKB.out.gw _).gw _⟩
end Go.Proofs.YtpkbonfbehhbdaaGreatDoor
