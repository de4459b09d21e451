/- Joined texts: Upper, Toks, Lex, NumP. -/
import Derived.Test.YtnjpfhihbjihbaaGreatDoorS01
import Derived.Test.YtnjpfhihbjihbaaGreatDoorS02
import Derived.Laws.IdiomStrings
/- num.Upper: capital letters. -/
namespace Go.Proofs.YtnjpfhihbjihbaaGreatDoor
open Go.RowKit Go.Sort

/-- A byte in capitals. -/
def up (c : UInt8) : UInt8 := if 97 ≤ c.toNat ∧ c.toNat ≤ 122 then c - 32 else c
/-- A string in capitals. -/
def upper (s : ByteArray) : ByteArray := ⟨(s.data.toList.map up).toArray⟩

theorem up_toNat (c : UInt8) : ((up c).toNat : Int) = if 97 ≤ (c.toNat : Int) ∧ (c.toNat : Int) ≤ 122 then (c.toNat : Int) - 97 + 65 else c.toNat := by
  unfold up
  by_cases h : 97 ≤ c.toNat ∧ c.toNat ≤ 122
  · rw [if_pos h, if_pos (by omega)]
    have : (c - 32).toNat = c.toNat - 32 := by
      rw [UInt8.toNat_sub_of_le]; rfl; rw [UInt8.le_iff_toNat_le]; show 32 ≤ c.toNat; omega
    rw [this]; omega
  · rw [if_neg h, if_neg (by omega)]

theorem setCell_alloc_mark (w : World) (C : Array Value) (t : TypeId) (fr : Nat × Nat) (i : Nat) (v : Value) :
    (w.alloc (.cells C t fr)).setCell ⟨w.heap.size, i, none⟩ v = w.alloc (.cells (C.setIfInBounds i v) t fr) := by
  have hm : ∀ (a : Array Obj) (x : Obj) (f : Obj → Obj), (a.push x).modify a.size f = a.push (f x) := by
    intro a x f
    apply Array.ext
    · simp
    · intro i h1 h2
      simp only [Array.getElem_modify, Array.getElem_push]
      by_cases h : a.size = i
      · subst h; simp
      · have hi : i < a.size := by simp at h1; omega
        simp [h, hi]
  show ({ (w.alloc (.cells C t fr)) with heap := (w.heap.push (.cells C t fr)).modify w.heap.size _ } : World) = _
  rw [hm]
  rfl

set_option maxHeartbeats 1000000 in
theorem upper_any (s : ByteArray) (w : World) (hs : s.size ≤ maxLen) :
    Calls Tryz.prog 145 #[.string s] w fun e w' => e = .returned (.string (upper s)) ∧ Below w.heap.size w w' := by
  unfold maxLen at hs
  have hconv := run_bytes_of_string (P := Tryz.prog) w 9 205 5 s Tryz.underlying9 Tryz.underlying205 Tryz.underlying5
  obtain ⟨cap, hcap⟩ : ∃ cap, grownCap w s.size 0 5 = cap := ⟨_, rfl⟩
  obtain ⟨C0, hC0⟩ : ∃ C0, bytesRow s cap = C0 := ⟨_, rfl⟩
  have hat : ∀ j (hj : j < s.size), C0[j]? = some (.int .u8 (s.data[j].toNat : Int)) := fun j hj => by rw [← hC0]; exact bytesRow_at s cap j hj
  have hsz : s.size ≤ C0.size := by rw [← hC0]; simp [bytesRow]
  rw [hcap, hC0] at hconv
  clear hcap hC0
  obtain ⟨m, hm⟩ : ∃ m, C0.size = m := ⟨_, rfl⟩
  rw [hm] at hconv
  have Hm := Lib.hid hm; clear hm
  go_enter Tryz.func145, Tryz.ntmps145
  go_wp2
  go_loopw [4, 5, 10] (fun _ _ i wr => ∃ (k : Nat) (C : Array Value), k ≤ s.size ∧ i = .int .i64 k ∧ wr = (w.alloc (.cells C 5 (m, m + 1))).drew ∧ C.size = m ∧
      (∀ j (hj : j < s.size), C[j]? = some (.int .u8 ((if j < k then up s.data[j] else s.data[j]).toNat : Int))))
    (fun _ _ i _ => s.size - (intOf i).toNat)
  case atStart => exact ⟨0, C0, Nat.zero_le _, rfl, rfl, Hm.out, by simpa using hat⟩
  case round =>
    obtain ⟨k, C, hk, rfl, rfl, hCm, hC⟩ := hrel
    by_cases hlt : k < s.size
    · obtain ⟨c, hc⟩ : ∃ c, (s.data[k].toNat : Int) = c := ⟨_, rfl⟩
      have hupc := up_toNat s.data[k]
      rw [hc] at hupc
      have hc0 : 0 ≤ c := by omega
      have hc1 : c ≤ 255 := by have := s.data[k].toNat_lt; omega
      have hcell : (w.alloc (.cells C 5 (m, m + 1))).cell? ⟨w.heap.size, k, none⟩ = some (.int .u8 c) := by
        rw [World.cell?_alloc_mark, hC k hlt, if_neg (Nat.lt_irrefl k), hc]
      have hfr : (w.alloc (.cells C 5 (m, m + 1))).frozen? ⟨w.heap.size, k, none⟩ = false := by
        rw [World.frozen?_alloc_mark]; have := Hm.out; simp; omega
      have HC := Lib.hid hC; clear hC
      have HCm := Lib.hid hCm; clear hCm
      have Hat := Lib.hid hat; clear hat
      have Hup := Lib.hid hupc; clear hupc
      have Hc := Lib.hid hc; clear hc hconv
      by_cases h1 : 97 ≤ c
      · by_cases h2 : c ≤ 122
        · go_wp2
          go_roundw
          case rel =>
            refine ⟨k + 1, C.setIfInBounds k (.int .u8 (c - 97 + 65)), by omega, by go_num, ?_, by rw [Array.size_setIfInBounds]; exact HCm.out, ?_⟩
            · rw [setCell_alloc_mark]
            · intro j hj
              rw [Array.getElem?_setIfInBounds]
              by_cases hjk : k = j
              · subst hjk
                have := HCm.out
                rw [if_pos rfl, if_pos (by rw [this]; have := Hm.out; omega), if_pos (by omega)]
                have := Hup.out
                rw [if_pos ⟨h1, h2⟩] at this
                rw [this]
              · rw [if_neg hjk, HC.out j hj]
                by_cases hjk2 : j < k
                · rw [if_pos hjk2, if_pos (by omega)]
                · rw [if_neg hjk2, if_neg (by omega)]
          case measure => simp [intOf]; omega
        · go_wp2
          go_roundw
          case rel =>
            refine ⟨k + 1, C, by omega, by go_num, rfl, HCm.out, ?_⟩
            intro j hj
            rw [HC.out j hj]
            by_cases hjk : j = k
            · subst hjk
              have := Hup.out
              rw [if_neg (by omega)] at this
              rw [if_neg (by omega), if_pos (by omega), this]
              rw [Hc.out]
            · by_cases hjk2 : j < k
              · rw [if_pos hjk2, if_pos (by omega)]
              · rw [if_neg hjk2, if_neg (by omega)]
          case measure => simp [intOf]; omega
      · go_wp2
        go_roundw
        case rel =>
          refine ⟨k + 1, C, by omega, by go_num, rfl, HCm.out, ?_⟩
          intro j hj
          rw [HC.out j hj]
          by_cases hjk : j = k
          · subst hjk
            have := Hup.out
            rw [if_neg (by omega)] at this
            rw [if_neg (by omega), if_pos (by omega), this]
            rw [Hc.out]
          · by_cases hjk2 : j < k
            · rw [if_pos hjk2, if_pos (by omega)]
            · rw [if_neg hjk2, if_neg (by omega)]
        case measure => simp [intOf]; omega
    · obtain rfl : k = s.size := by omega
      have hback := run_convert_bytes_back (P := Tryz.prog) (w.alloc (.cells C 5 (m, m + 1))).drew 205 9 5 ⟨w.heap.size, 0, none⟩ cap (s.data.toList.map up) Tryz.underlying205 Tryz.underlying5 Tryz.underlying9 (by
        intro j hj
        have hj' : j < s.size := by simpa using hj
        show (w.alloc (.cells C 5 (m, m + 1))).cell? (Addr.add ⟨w.heap.size, 0, none⟩ j) = _
        rw [show Addr.add ⟨w.heap.size, 0, none⟩ j = ⟨w.heap.size, j, none⟩ from by simp [Addr.add, eq_comm], World.cell?_alloc_mark, hC j hj', if_pos hj']
        simp)
      have hl : (s.data.toList.map up).length = s.size := by simp
      rw [hl] at hback
      have HC := Lib.hid hC; clear hC hat hconv
      go_wp2
      go_ret
      exact ⟨rfl, ((Below.refl _ _).alloc (Nat.le_refl _) _).drew⟩
end Go.Proofs.YtnjpfhihbjihbaaGreatDoor

/- Tokens, expressions, and what the two parsers look at. No program in sight. -/
namespace Go.Proofs.YtnjpfhihbjihbaaGreatDoor
open Go.RowKit Go.Sort

/-- A token: kind (1 word, 2 number, 3 string, 4 sign), text, number, offset. -/
structure Tok where
  kind : Int
  text : ByteArray
  n : Int
  off : Int
/-- An expression. -/
inductive Ex where
  | num (n : Int)
  | sym (s : ByteArray)
  | here
  | un (op : ByteArray) (a : Ex)
  | bin (op : ByteArray) (a b : Ex)

def sMOD : ByteArray := ⟨#[77, 79, 68]⟩
/-- The operator, sign or bracket that a token is, or the empty string. -/
def tnm (t : Tok) : ByteArray := if t.kind = 4 then t.text else if t.kind = 1 ∧ (upper t.text).toList = [77, 79, 68] then sMOD else ⟨#[]⟩
/-- The level of a binary operator, or 0. -/
def lvlL (l : List UInt8) : Nat :=
  if l = [124] then 1 else if l = [94] then 2 else if l = [38] then 3 else if l = [60, 60] ∨ l = [62, 62] then 4 else if l = [43] ∨ l = [45] then 5 else if l = [42] ∨ l = [47] ∨ l = [77, 79, 68] then 6 else 0
def lvlS (s : ByteArray) : Nat := lvlL s.toList
/-- A token that is an operand by itself. -/
def tatom (t : Tok) : Option Ex :=
  if (tnm t).toList = [36] then some .here
  else if (tnm t).toList ≠ [] then none
  else if t.kind = 1 then some (.sym t.text)
  else if t.kind = 2 then some (.num t.n)
  else if t.kind = 3 ∧ t.text.toList.length = 1 then some (.num ((t.text.toList.headD 0).toNat : Int))
  else none
def tU (t : Tok) : Bool := (tnm t).toList == [45] || (tnm t).toList == [43] || (tnm t).toList == [126]
def tL (t : Tok) : Bool := (tnm t).toList == [40]
def tR (t : Tok) : Bool := (tnm t).toList == [41]
def tends (t : Tok) : Bool := (tnm t).toList == [] || (tnm t).toList == [41] || (tnm t).toList == [36]

theorem lvlL_le (l : List UInt8) : lvlL l ≤ 6 := by unfold lvlL; repeat' split
                                                    all_goals omega
theorem lvlL_op (l : List UInt8) (h : lvlL l ≠ 0) : l = [124] ∨ l = [94] ∨ l = [38] ∨ l = [60, 60] ∨ l = [62, 62] ∨ l = [43] ∨ l = [45] ∨ l = [42] ∨ l = [47] ∨ l = [77, 79, 68] := by
  unfold lvlL at h
  repeat' split at h
  all_goals first | (rename_i h1; rcases h1 with h1 | h1 | h1 <;> simp [h1]; done) | (rename_i h1; rcases h1 with h1 | h1 <;> simp [h1]; done) | (rename_i h1; simp [h1]; done) | exact absurd rfl h
theorem tatom_of (t : Tok) (e : Ex) (h : tatom t = some e) : (tnm t).toList = [36] ∨ (tnm t).toList = [] := by
  unfold tatom at h
  split at h
  · left; assumption
  · split at h
    · cases h
    · right; rename_i h2; exact Decidable.of_not_not h2
theorem tatom_none (t : Tok) (h : (tnm t).toList ≠ [36]) (h2 : (tnm t).toList ≠ []) : tatom t = none := by
  unfold tatom; rw [if_neg h, if_pos h2]

/-- What the two parsers look at. -/
def exLang : Lang Tok Ex where
  lvl t := lvlS (tnm t)
  isU := tU
  isL := tL
  isR := tR
  ends := tends
  atom := tatom
  un t a := .un (tnm t) a
  bin t a b := .bin (tnm t) a b
  lvl_le t := lvlL_le _
  lvl_op t h := by
    have := lvlL_op _ h
    refine ⟨?_, tatom_none t ?_ ?_, ?_, ?_⟩ <;> rcases this with h | h | h | h | h | h | h | h | h | h <;> simp [tends, tL, tR, h]
  u_ends t h := by
    have : (tnm t).toList = [45] ∨ (tnm t).toList = [43] ∨ (tnm t).toList = [126] := by simpa [tU, or_assoc] using h
    refine ⟨?_, tatom_none t ?_ ?_, ?_, ?_⟩ <;> rcases this with h | h | h <;> simp [tends, tL, tR, h]
  l_not t h := by
    have h : (tnm t).toList = [40] := by simpa [tL] using h
    refine ⟨?_, tatom_none t ?_ ?_, ?_⟩ <;> simp [tends, tR, h]
  r_ends t h := by
    have h : (tnm t).toList = [41] := by simpa [tR] using h
    refine ⟨?_, tatom_none t ?_ ?_⟩ <;> simp [tends, h]
  a_ends t e h := by
    rcases tatom_of t e h with h | h <;> simp [tends, h]

/-- The symbols of an expression, as often as they occur. -/
def Ex.syms : Ex → List ByteArray
  | .num _ => []
  | .sym s => [s]
  | .here => []
  | .un _ a => a.syms
  | .bin _ a b => a.syms ++ b.syms
end Go.Proofs.YtnjpfhihbjihbaaGreatDoor

/- The bytes of a line: letters, digits, runs, blanks, quoted strings, signs. No program in sight. -/
namespace Go.Proofs.YtnjpfhihbjihbaaGreatDoor
open Go.RowKit Go.Sort

def isLet (c : UInt8) : Bool := decide (97 ≤ c.toNat ∧ c.toNat ≤ 122) || decide (65 ≤ c.toNat ∧ c.toNat ≤ 90) || c == 95 || c == 46 || c == 63 || c == 64
def isDig (c : UInt8) : Bool := decide (48 ≤ c.toNat ∧ c.toNat ≤ 57)
def isW (c : UInt8) : Bool := isLet c || isDig c
/-- The offset behind the letters and digits from an offset on. -/
def runEnd (s : ByteArray) (i : Nat) : Nat := if h : i < s.size then (if isW s[i] then runEnd s (i + 1) else i) else i
  termination_by s.size - i
theorem runEnd_go (s : ByteArray) (i : Nat) (h : i < s.size) (hw : isW s[i] = true) : runEnd s i = runEnd s (i + 1) := by
  rw [runEnd, dif_pos h, if_pos hw]
theorem runEnd_no (s : ByteArray) (i : Nat) (h : i < s.size) (hw : isW s[i] = false) : runEnd s i = i := by
  rw [runEnd, dif_pos h, if_neg (by rw [hw]; simp)]
theorem runEnd_out (s : ByteArray) (i : Nat) (h : ¬ i < s.size) : runEnd s i = i := by
  rw [runEnd, dif_neg h]
theorem runEnd_ge (s : ByteArray) (i : Nat) : i ≤ runEnd s i := by
  by_cases h : i < s.size
  · cases hw : isW s[i] with
    | true => rw [runEnd_go s i h hw]; have := runEnd_ge s (i + 1); omega
    | false => rw [runEnd_no s i h hw]; exact Nat.le_refl _
  · rw [runEnd_out s i h]; exact Nat.le_refl _
  termination_by s.size - i
theorem runEnd_le (s : ByteArray) (i : Nat) (hi : i ≤ s.size) : runEnd s i ≤ s.size := by
  by_cases h : i < s.size
  · cases hw : isW s[i] with
    | true => rw [runEnd_go s i h hw]; exact runEnd_le s (i + 1) h
    | false => rw [runEnd_no s i h hw]; exact hi
  · rw [runEnd_out s i h]; exact hi
  termination_by s.size - i
/-- The offset behind the spaces and tabs from an offset on. -/
def skipEnd (s : ByteArray) (i : Nat) : Nat := if h : i < s.size then (if s[i] = 32 ∨ s[i] = 9 then skipEnd s (i + 1) else i) else i
  termination_by s.size - i
theorem skipEnd_go (s : ByteArray) (i : Nat) (h : i < s.size) (hw : s[i] = 32 ∨ s[i] = 9) : skipEnd s i = skipEnd s (i + 1) := by
  rw [skipEnd, dif_pos h, if_pos hw]
theorem skipEnd_no (s : ByteArray) (i : Nat) (h : i < s.size) (hw : ¬ (s[i] = 32 ∨ s[i] = 9)) : skipEnd s i = i := by
  rw [skipEnd, dif_pos h, if_neg hw]
theorem skipEnd_out (s : ByteArray) (i : Nat) (h : ¬ i < s.size) : skipEnd s i = i := by
  rw [skipEnd, dif_neg h]
theorem skipEnd_ge (s : ByteArray) (i : Nat) : i ≤ skipEnd s i := by
  by_cases h : i < s.size
  · by_cases hw : s[i] = 32 ∨ s[i] = 9
    · rw [skipEnd_go s i h hw]; have := skipEnd_ge s (i + 1); omega
    · rw [skipEnd_no s i h hw]; exact Nat.le_refl _
  · rw [skipEnd_out s i h]; exact Nat.le_refl _
  termination_by s.size - i
theorem skipEnd_le (s : ByteArray) (i : Nat) (hi : i ≤ s.size) : skipEnd s i ≤ s.size := by
  by_cases h : i < s.size
  · by_cases hw : s[i] = 32 ∨ s[i] = 9
    · rw [skipEnd_go s i h hw]; exact skipEnd_le s (i + 1) h
    · rw [skipEnd_no s i h hw]; exact hi
  · rw [skipEnd_out s i h]; exact hi
  termination_by s.size - i
/-- The bytes from one offset up to another. -/
abbrev sub (s : ByteArray) (i j : Nat) : ByteArray := s.extract i j
/-- The offset behind the word at an offset, or the offset itself. -/
def wordEnd (s : ByteArray) (i : Nat) : Nat :=
  if h : i < s.size then
    (if isLet s[i] then
      (if h2 : runEnd s i < s.size then (if (upper (sub s i (runEnd s i))).toList = [65, 70] ∧ s[runEnd s i] = 39 then runEnd s i + 1 else runEnd s i) else runEnd s i)
    else i)
  else i
/-- The signs of one byte. -/
def signs1 : List UInt8 := [44, 40, 41, 43, 45, 42, 47, 38, 124, 94, 126, 58, 61, 36]
/-- The length of the sign at an offset, or 0. -/
def signLen (s : ByteArray) (i : Nat) : Nat :=
  if i + 1 < s.size ∧ ((sub s i (i + 2)).toList = [60, 60] ∨ (sub s i (i + 2)).toList = [62, 62]) then 2
  else if h : i < s.size then (if s[i] ∈ signs1 then 1 else 0) else 0
end Go.Proofs.YtnjpfhihbjihbaaGreatDoor

/- Numbers: digits to a base, and the forms in which a number is written. No program in sight. -/
namespace Go.Proofs.YtnjpfhihbjihbaaGreatDoor
open Go.RowKit Go.Sort

/-- The value of a digit among 0123456789ABCDEF, or 99. -/
def digU (c : UInt8) : Nat := if 48 ≤ c.toNat ∧ c.toNat ≤ 57 then c.toNat - 48 else if 65 ≤ c.toNat ∧ c.toNat ≤ 70 then c.toNat - 55 else 99
/-- Digits to a base, behind a number. -/
def valGo (b : Nat) : Nat → List UInt8 → Option Nat
  | n, [] => some n
  | n, c :: l => if b ≤ digU c then none else if 65535 < n * b + digU c then none else valGo b (n * b + digU c) l
def valU (b : Nat) (l : List UInt8) : Option Nat := if l = [] then none else valGo b 0 l
/-- .. that goes on to the last digit. -/
def satGo (b : Nat) : Nat → List UInt8 → Option Nat
  | n, [] => some n
  | n, c :: l => if b ≤ digU c then none else satGo b (min (n * b + digU c) 1000000) l

theorem satGo_cons (b n : Nat) (c : UInt8) (l : List UInt8) : satGo b n (c :: l) = if b ≤ digU c then none else satGo b (min (n * b + digU c) 1000000) l := rfl
theorem satGo_nil (b n : Nat) : satGo b n [] = some n := rfl
theorem valGo_cons (b n : Nat) (c : UInt8) (l : List UInt8) : valGo b n (c :: l) = if b ≤ digU c then none else if 65535 < n * b + digU c then none else valGo b (n * b + digU c) l := rfl
theorem valGo_nil (b n : Nat) : valGo b n [] = some n := rfl
theorem satGo_ge (b : Nat) (hb : 1 ≤ b) : ∀ (l : List UInt8) (n m : Nat), n ≤ 1000000 → satGo b n l = some m → n ≤ m
  | [], n, m, _, h => by simp [satGo] at h; omega
  | c :: l, n, m, hn, h => by
    unfold satGo at h
    split at h
    · cases h
    · have := satGo_ge b hb l _ m (by omega) h
      have h2 : n * 1 ≤ n * b := Nat.mul_le_mul_left n hb
      omega
theorem sat_val (b : Nat) (hb : 1 ≤ b) (hb2 : b ≤ 16) : ∀ (l : List UInt8) (n : Nat), n ≤ 65535 → valGo b n l = (match satGo b n l with | some m => if 65535 < m then none else some m | none => none)
  | [], n, h => by simp [valGo, satGo]; omega
  | c :: l, n, h => by
    unfold valGo satGo
    by_cases hd : b ≤ digU c
    · rw [if_pos hd, if_pos hd]
    · rw [if_neg hd, if_neg hd]
      have h2 : n * b ≤ 65535 * 16 := Nat.mul_le_mul h hb2
      by_cases hn : 65535 < n * b + digU c
      · rw [if_pos hn]
        cases hs : satGo b (min (n * b + digU c) 1000000) l with
        | none => rfl
        | some m =>
          have := satGo_ge b hb l _ m (by omega) hs
          show none = if 65535 < m then none else some m
          rw [if_pos (by omega)]
      · rw [if_neg hn, show min (n * b + digU c) 1000000 = n * b + digU c by omega]
        exact sat_val b hb hb2 l _ (by omega)
theorem valGo_le (b : Nat) : ∀ (l : List UInt8) (n m : Nat), n ≤ 65535 → valGo b n l = some m → m ≤ 65535
  | [], n, m, h, hv => by simp [valGo] at hv; omega
  | c :: l, n, m, h, hv => by
    unfold valGo at hv
    split at hv
    · cases hv
    · split at hv
      · cases hv
      · exact valGo_le b l _ m (by omega) hv
theorem valGo_mem (b : Nat) : ∀ (l : List UInt8) (n m : Nat), valGo b n l = some m → ∀ c ∈ l, digU c < b
  | [], n, m, _, c, hc => by cases hc
  | a :: l, n, m, h, c, hc => by
    unfold valGo at h
    split at h
    · cases h
    · split at h
      · cases h
      · rcases List.mem_cons.1 hc with rfl | hc
        · omega
        · exact valGo_mem b l _ m h c hc
theorem valU_mem {b : Nat} {l : List UInt8} {m : Nat} (h : valU b l = some m) : l ≠ [] ∧ ∀ c ∈ l, digU c < b := by
  unfold valU at h
  split at h
  · cases h
  · exact ⟨by assumption, valGo_mem b l 0 m h⟩
theorem valU_le {b : Nat} {l : List UInt8} {m : Nat} (h : valU b l = some m) : m ≤ 65535 := by
  unfold valU at h
  split at h
  · cases h
  · exact valGo_le b l 0 m (by omega) h

/-- The number that a word in capitals denotes. -/
def numU (u : List UInt8) : Option Nat :=
  (valU 10 u).or ((if [48, 88].isPrefixOf u then valU 16 (u.drop 2) else none).or ((if [36].isPrefixOf u then valU 16 (u.drop 1) else none).or
    ((if u.getLast? = some 72 ∧ (u.dropLast.headD 99).toNat ≤ 57 then valU 16 u.dropLast else none).or ((if u.getLast? = some 66 then valU 2 u.dropLast else none).or (if [37].isPrefixOf u then valU 2 (u.drop 1) else none)))))
/-- The number that a word denotes. -/
def numP (s : ByteArray) : Option Nat := numU (upper s).data.toList

theorem numU_le {u : List UInt8} {m : Nat} (h : numU u = some m) : m ≤ 65535 := by
  unfold numU at h
  simp only [Option.or_eq_some_iff] at h
  rcases h with h | ⟨_, h | ⟨_, h | ⟨_, h | ⟨_, h | ⟨_, h⟩⟩⟩⟩⟩
  all_goals
    first
      | exact valU_le h
      | (split at h
         · exact valU_le h
         · cases h)

theorem last1 (a : UInt8) (t : List UInt8) (c : UInt8) (hac : a ≠ c) (ha : 16 ≤ digU a) (h : (a :: t).getLast? = some c) (hm : ∀ x ∈ (a :: t).dropLast, digU x < 16) : False := by
  cases t with
  | nil => simp at h; exact hac h
  | cons b t => have := hm a (by simp); omega
theorem last2 (t : List UInt8) (c : UInt8) (hac : (88 : UInt8) ≠ c) (h : (48 :: 88 :: t).getLast? = some c) (hm : ∀ x ∈ (48 :: 88 :: t : List UInt8).dropLast, digU x < 16) : False := by
  cases t with
  | nil => simp at h; exact hac h
  | cons b t => have := hm 88 (by simp); simp [digU] at this
/-- The six ways exclude one another. -/
theorem excl (u : List UInt8) :
    let a1 := valU 10 u
    let a2 := if [48, 88].isPrefixOf u then valU 16 (u.drop 2) else none
    let a3 := if [36].isPrefixOf u then valU 16 (u.drop 1) else none
    let a4 := if u.getLast? = some 72 ∧ (u.dropLast.headD 99).toNat ≤ 57 then valU 16 u.dropLast else none
    let a5 := if u.getLast? = some 66 then valU 2 u.dropLast else none
    let a6 := if [37].isPrefixOf u then valU 2 (u.drop 1) else none
    (a1 = none ∨ a2 = none) ∧ (a1 = none ∨ a3 = none) ∧ (a1 = none ∨ a4 = none) ∧ (a1 = none ∨ a5 = none) ∧ (a1 = none ∨ a6 = none) ∧ (a2 = none ∨ a3 = none) ∧ (a2 = none ∨ a4 = none) ∧ (a2 = none ∨ a5 = none) ∧ (a2 = none ∨ a6 = none) ∧
    (a3 = none ∨ a4 = none) ∧ (a3 = none ∨ a5 = none) ∧ (a3 = none ∨ a6 = none) ∧ (a4 = none ∨ a5 = none) ∧ (a4 = none ∨ a6 = none) ∧ (a5 = none ∨ a6 = none) := by
  have e2 : [48, 88].isPrefixOf u = true → ∃ t, u = 48 :: 88 :: t := fun h => by
    obtain ⟨t, ht⟩ := List.isPrefixOf_iff_prefix.1 h
    exact ⟨t, ht.symm⟩
  have e3 : [36].isPrefixOf u = true → ∃ t, u = 36 :: t := fun h => by
    obtain ⟨t, ht⟩ := List.isPrefixOf_iff_prefix.1 h
    exact ⟨t, ht.symm⟩
  have e6 : [37].isPrefixOf u = true → ∃ t, u = 37 :: t := fun h => by
    obtain ⟨t, ht⟩ := List.isPrefixOf_iff_prefix.1 h
    exact ⟨t, ht.symm⟩
  have p1 : ∀ m, valU 10 u = some m → ∀ c ∈ u, digU c < 10 := fun m h => (valU_mem h).2
  have hl : ∀ c, u.getLast? = some c → ∃ t, u = t ++ [c] := fun c h => by
    obtain ⟨hne, hh⟩ := List.getLast?_eq_some_iff.1 h
    exact ⟨_, hh⟩
  simp only
  refine ⟨?_, ?_, ?_, ?_, ?_, ?_, ?_, ?_, ?_, ?_, ?_, ?_, ?_, ?_, ?_⟩
  all_goals
    rw [Classical.or_iff_not_imp_left]
    intro hn
    obtain ⟨m, hm⟩ := Option.ne_none_iff_exists'.1 hn
    refine Option.eq_none_iff_forall_ne_some.2 (fun m' hm' => ?_)
    repeat' split at hm
    all_goals try (cases hm; done)
    all_goals repeat' split at hm'
    all_goals try (cases hm'; done)
  · rename_i h; obtain ⟨t, rfl⟩ := e2 h; have := p1 m hm 88 (by simp); simp [digU] at this
  · rename_i h; obtain ⟨t, rfl⟩ := e3 h; have := p1 m hm 36 (by simp); simp [digU] at this
  · rename_i h; obtain ⟨t, rfl⟩ := hl _ h.1; have := p1 m hm 72 (by simp); simp [digU] at this
  · rename_i h; obtain ⟨t, rfl⟩ := hl _ h; have := p1 m hm 66 (by simp); simp [digU] at this
  · rename_i h; obtain ⟨t, rfl⟩ := e6 h; have := p1 m hm 37 (by simp); simp [digU] at this
  · rename_i h h'; obtain ⟨t, rfl⟩ := e2 h; obtain ⟨t', h2⟩ := e3 h'; simp at h2
  · rename_i h h'; obtain ⟨t, rfl⟩ := e2 h; exact last2 t 72 (by decide) h'.1 ((valU_mem hm').2)
  · rename_i h h'; obtain ⟨t, rfl⟩ := e2 h; exact last2 t 66 (by decide) h' (fun c hc => Nat.lt_trans ((valU_mem hm').2 c hc) (by decide))
  · rename_i h h'; obtain ⟨t, rfl⟩ := e2 h; obtain ⟨t', h2⟩ := e6 h'; simp at h2
  · rename_i h h'; obtain ⟨t, rfl⟩ := e3 h; exact last1 36 t 72 (by decide) (by decide) h'.1 ((valU_mem hm').2)
  · rename_i h h'; obtain ⟨t, rfl⟩ := e3 h; exact last1 36 t 66 (by decide) (by decide) h' (fun c hc => Nat.lt_trans ((valU_mem hm').2 c hc) (by decide))
  · rename_i h h'; obtain ⟨t, rfl⟩ := e3 h; obtain ⟨t', h2⟩ := e6 h'; simp at h2
  · rename_i h h'; rw [h.1] at h'; simp at h'
  · rename_i h h'; obtain ⟨t, rfl⟩ := e6 h'; exact last1 37 t 72 (by decide) (by decide) h.1 ((valU_mem hm).2)
  · rename_i h h'; obtain ⟨t, rfl⟩ := e6 h'; exact last1 37 t 66 (by decide) (by decide) h (fun c hc => Nat.lt_trans ((valU_mem hm).2 c hc) (by decide))

/-- A number of which at most one way gives one. -/
def oI (o : Option Nat) : Int := match o with | some n => n | none => -1
theorem oI_none : oI none = -1 := rfl
theorem oI_some (n : Nat) : oI (some n) = n := rfl
/-- .. by the greatest of all ways. -/
def numMax (u : List UInt8) : Int :=
  max (max (max (max (max (oI (valU 10 u)) (oI (if [48, 88].isPrefixOf u then valU 16 (u.drop 2) else none))) (oI (if [36].isPrefixOf u then valU 16 (u.drop 1) else none)))
    (oI (if [37].isPrefixOf u then valU 2 (u.drop 1) else none))) (oI (if u.getLast? = some 72 ∧ (u.dropLast.headD 99).toNat ≤ 57 then valU 16 u.dropLast else none))) (oI (if u.getLast? = some 66 then valU 2 u.dropLast else none))
theorem oI_ge (o : Option Nat) : -1 ≤ oI o := by cases o <;> simp [oI]
                                                 try omega
theorem numMax_eq (u : List UInt8) : numMax u = oI (numU u) := by
  have he := excl u
  unfold numMax numU
  simp only at he
  generalize valU 10 u = a1 at *
  generalize (if [48, 88].isPrefixOf u then valU 16 (u.drop 2) else none) = a2 at *
  generalize (if [36].isPrefixOf u then valU 16 (u.drop 1) else none) = a3 at *
  generalize (if u.getLast? = some 72 ∧ (u.dropLast.headD 99).toNat ≤ 57 then valU 16 u.dropLast else none) = a4 at *
  generalize (if u.getLast? = some 66 then valU 2 u.dropLast else none) = a5 at *
  generalize (if [37].isPrefixOf u then valU 2 (u.drop 1) else none) = a6 at *
  have g1 := oI_ge a1
  have g2 := oI_ge a2
  have g3 := oI_ge a3
  have g4 := oI_ge a4
  have g5 := oI_ge a5
  have g6 := oI_ge a6
  obtain ⟨h12, h13, h14, h15, h16, h23, h24, h25, h26, h34, h35, h36, h45, h46, h56⟩ := he
  rcases a1 with _ | a1
  · rcases a2 with _ | a2
    · rcases a3 with _ | a3
      · rcases a4 with _ | a4
        · rcases a5 with _ | a5
          · simp only [Option.none_or, oI_none] at *; omega
          · obtain rfl : a6 = none := by simpa using h56
            simp only [Option.none_or, Option.some_or, oI_none, oI_some] at *; omega
        · obtain rfl : a6 = none := by simpa using h46
          obtain rfl : a5 = none := by simpa using h45
          simp only [Option.none_or, Option.some_or, oI_none, oI_some] at *; omega
      · obtain rfl : a6 = none := by simpa using h36
        obtain rfl : a5 = none := by simpa using h35
        obtain rfl : a4 = none := by simpa using h34
        simp only [Option.none_or, Option.some_or, oI_none, oI_some] at *; omega
    · obtain rfl : a6 = none := by simpa using h26
      obtain rfl : a5 = none := by simpa using h25
      obtain rfl : a4 = none := by simpa using h24
      obtain rfl : a3 = none := by simpa using h23
      simp only [Option.none_or, Option.some_or, oI_none, oI_some] at *; omega
  · obtain rfl : a6 = none := by simpa using h16
    obtain rfl : a5 = none := by simpa using h15
    obtain rfl : a4 = none := by simpa using h14
    obtain rfl : a3 = none := by simpa using h13
    obtain rfl : a2 = none := by simpa using h12
    simp only [Option.some_or, oI_none, oI_some] at *; omega

/-! ### Capitals and digits -/
theorem digU_up_dec (c : UInt8) (h : digU c < 10) : digU (up c) = digU c := by
  have hn : 48 ≤ c.toNat ∧ c.toNat ≤ 57 := by unfold digU at h; split at h; assumption; split at h <;> omega
  unfold up; rw [if_neg (by omega)]
theorem digU_dec_up (c : UInt8) (h : digU (up c) < 10) : digU (up c) = digU c := by
  by_cases hc : 97 ≤ c.toNat ∧ c.toNat ≤ 122
  · exfalso
    have := up_toNat c
    rw [if_pos (by omega)] at this
    unfold digU at h; split at h
    · omega
    · split at h <;> omega
  · unfold up; rw [if_neg hc]
theorem valGo_up : ∀ (l : List UInt8) (n : Nat), valGo 10 n (l.map up) = valGo 10 n l
  | [], n => rfl
  | c :: l, n => by
    rw [List.map_cons]
    unfold valGo
    by_cases h1 : digU c < 10
    · rw [digU_up_dec c h1]
      simp only [valGo_up l]
    · have h2 : ¬ digU (up c) < 10 := fun h => h1 (by rw [← digU_dec_up c h]; exact h)
      rw [if_pos (by omega), if_pos (by omega)]
theorem valU_up (l : List UInt8) : valU 10 (l.map up) = valU 10 l := by
  unfold valU
  rw [valGo_up]
  by_cases h : l = []
  · subst h; rfl
  · rw [if_neg h, if_neg (by simpa using h)]
end Go.Proofs.YtnjpfhihbjihbaaGreatDoor
