/- The statement ExprBrackets of chapter 17: proved for every input; no condition beyond the statement's own. -/
import Derived.Test.YtpkbonfbehhbdaaGreatDoorCards
import Derived.Test.YtpkbonfbehhbdaaGreatDoorE06
import Derived.Test.YtpkbonfbehhbdaaGreatDoorE08
import Derived.Test.YtpkbonfbehhbdaaGreatDoorE09
import Derived.Test.YtpkbonfbehhbdaaGreatDoorE11
import Derived.Test.YtpkbonfbehhbdaaGreatDoorE12
import Derived.Test.YtpkbonfbehhbdaaGreatDoorE13
import Derived.Test.YtpkbonfbehhbdaaGreatDoorE14
import Derived.Test.YtpkbonfbehhbdaaGreatDoorE21
import Derived.Test.YtpkbonfbehhbdaaGreatDoorE29
import Derived.Test.YtpkbonfbehhbdaaGreatDoorE32
import Derived.Test.YtpkbonfbehhbdaaGreatDoorTie
import Derived.Deep.DeepHandedRow
import Derived.Lib.LaidTab
import Derived.Lib.SmallJoins
import Derived.OpenShut
import Derived.ProofKit
import Derived.ShutString
/- Reading tokens out of a text whose parts are known. No program in sight. -/
namespace Go.Proofs.YtpkbonfbehhbdaaGreatDoor
open Go.RowKit Go.Sort

/-- The bytes of u stand in s from i on. -/
def At (s : ByteArray) (i : Nat) (u : ByteArray) : Prop := ∀ k, k < u.size → i + k < s.size ∧ bat s (i + k) = bat u k
theorem bat_append (u v : ByteArray) (k : Nat) : bat (u ++ v) k = if k < u.size then bat u k else bat v (k - u.size) := by
  unfold bat
  rw [ByteArray.data_append, Array.getElem?_append]
  split <;> rename_i h <;> (first | rw [if_pos (by exact h)] | rw [if_neg (by exact h)])
  rfl
theorem At.left {s : ByteArray} {i : Nat} {u v : ByteArray} (h : At s i (u ++ v)) : At s i u := fun k hk => by
  have := h k (by rw [ByteArray.size_append]; omega)
  rw [bat_append, if_pos hk] at this
  exact this
theorem At.right {s : ByteArray} {i : Nat} {u v : ByteArray} (h : At s i (u ++ v)) : At s (i + u.size) v := fun k hk => by
  have := h (u.size + k) (by rw [ByteArray.size_append]; omega)
  rw [bat_append, if_neg (by omega), show u.size + k - u.size = k by omega, ← Nat.add_assoc] at this
  exact this
theorem At.self (s : ByteArray) : At s 0 s := fun k hk => ⟨by omega, by rw [Nat.zero_add]⟩
theorem At.le {s : ByteArray} {i : Nat} {u : ByteArray} (h : At s i u) (hu : 0 < u.size) : i + u.size ≤ s.size := by
  have := (h (u.size - 1) (by omega)).1
  omega
theorem At.one {s : ByteArray} {i : Nat} {c : UInt8} (h : At s i ⟨#[c]⟩) : i < s.size ∧ bat s i = c := by
  have := h 0 (by show 0 < 1; decide)
  exact this
theorem sub_at {s : ByteArray} {i : Nat} {u : ByteArray} (h : At s i u) : s.extract i (i + u.size) = u := by
  rcases Nat.eq_zero_or_pos u.size with h0 | h0
  · apply ByteArray.ext
    have : u.data = #[] := Array.eq_empty_of_size_eq_zero (by exact h0)
    rw [this, ByteArray.data_extract]
    apply Array.eq_empty_of_size_eq_zero
    rw [Array.size_extract, h0]
    omega
  have hle := h.le h0
  apply ByteArray.ext
  rw [ByteArray.data_extract]
  apply Array.ext
  · rw [Array.size_extract]
    show min (i + u.size) s.size - i = u.size
    omega
  · intro k h1 h2
    have hk : k < u.size := h2
    have hb := (h k hk).2
    rw [Array.getElem_extract]
    unfold bat at hb
    rw [Array.getElem?_eq_getElem (by show i + k < s.size; omega), Array.getElem?_eq_getElem h2] at hb
    exact hb
/-- No letter, digit or quote goes on at j. -/
def Stop1 (s : ByteArray) (j : Nat) : Prop := ¬ j < s.size ∨ isW (bat s j) = false ∧ bat s j ≠ 39
theorem run_at {s : ByteArray} {i : Nat} {u : ByteArray} (h : At s i u) (hw : ∀ k, k < u.size → isW (bat u k) = true) (hs : Stop1 s (i + u.size)) : ∀ m k, k + m = u.size → runEnd s (i + k) = i + u.size
  | 0, k, hk => by
    have e : i + k = i + u.size := by omega
    rw [e]
    rcases hs with hs | ⟨hs, _⟩
    · exact runEnd_out _ _ hs
    · by_cases hlt : i + u.size < s.size
      · exact runEnd_no _ _ hlt (by rw [bat_get _ _ hlt]; exact hs)
      · exact runEnd_out _ _ hlt
  | m + 1, k, hk => by
    obtain ⟨h1, h2⟩ := h k (by omega)
    rw [runEnd_go s (i + k) h1 (by rw [bat_get _ _ h1, h2]; exact hw k (by omega))]
    exact run_at h hw hs m (k + 1) (by omega)
/-- From i on the tokens l are read, up to j. -/
def Lx (s : ByteArray) (i : Nat) (l : List Tok) (j : Nat) : Prop := ∀ acc, toksGo s i acc = toksGo s j (acc ++ l)
theorem Lx.trans {s : ByteArray} {i j k : Nat} {l m : List Tok} (h : Lx s i l j) (h2 : Lx s j m k) : Lx s i (l ++ m) k := fun acc => by
  rw [h acc, h2 (acc ++ l), List.append_assoc]
theorem lx_blank {s : ByteArray} {i : Nat} (hi : i < s.size) (hb : bat s i = 32) : Lx s i [] (i + 1) := fun acc => by
  have hsk : skipEnd s i = skipEnd s (i + 1) := skipEnd_go s i hi (.inl (by rw [bat_get _ _ hi]; exact hb))
  rw [List.append_nil]
  rcases hm : moreAt s (skipEnd s i) with _ | _
  · rw [toksGo_end s i acc hm, toksGo_end s (i + 1) acc (by rw [← hsk]; exact hm), hsk]
  · rcases hn : nextP s (skipEnd s i) with e | ⟨t, n⟩
    · rw [toksGo_err s i acc e hm hn, toksGo_err s (i + 1) acc e (by rw [← hsk]; exact hm) (by rw [← hsk]; exact hn)]
    · rw [toksGo_step s i acc t n hm hn, toksGo_step s (i + 1) acc t n (by rw [← hsk]; exact hm) (by rw [← hsk]; exact hn)]
theorem lx_tok {s : ByteArray} {i n : Nat} {t : Tok} (hi : i < s.size) (h32 : bat s i ≠ 32) (h9 : bat s i ≠ 9) (h59 : bat s i ≠ 59) (hn : nextP s i = .ok (t, n)) : Lx s i [t] n := fun acc => by
  have hsk : skipEnd s i = i := skipEnd_no s i hi (by rw [bat_get _ _ hi]; rintro (h | h); exact h32 h; exact h9 h)
  have hm : moreAt s i = true := by unfold moreAt; simp [hi, h59]
  exact toksGo_step s i acc t n (by rw [hsk]; exact hm) (by rw [hsk]; exact hn)
theorem isLet_ne {c : UInt8} (h : isLet c = true) : c ≠ 32 ∧ c ≠ 9 ∧ c ≠ 59 := by
  refine ⟨?_, ?_, ?_⟩ <;> (rintro rfl; revert h; decide)
theorem isDig_ne {c : UInt8} (h : isDig c = true) : c ≠ 32 ∧ c ≠ 9 ∧ c ≠ 59 ∧ isLet c = false := by
  refine ⟨?_, ?_, ?_, ?_⟩
  · rintro rfl; revert h; decide
  · rintro rfl; revert h; decide
  · rintro rfl; revert h; decide
  · unfold isDig at h
    simp only [decide_eq_true_eq] at h
    unfold isLet
    have e : ∀ d : UInt8, d.toNat < 48 ∨ 57 < d.toNat → (c == d) = false := fun d hd => by rw [beq_eq_false_iff_ne]; rintro rfl; omega
    rw [decide_eq_false (by omega), decide_eq_false (by omega), e 95 (by decide), e 46 (by decide), e 63 (by decide), e 64 (by decide)]
    rfl
/-- A word: it begins with a letter, and letters and digits follow. -/
def WordOk (u : ByteArray) : Prop := 0 < u.size ∧ isLet (bat u 0) = true ∧ ∀ k, k < u.size → isW (bat u k) = true
theorem lx_word {s : ByteArray} {i : Nat} {u : ByteArray} (h : At s i u) (hu : WordOk u) (hs : Stop1 s (i + u.size)) : Lx s i [⟨1, u, 0, i⟩] (i + u.size) := by
  obtain ⟨h0, h1, h2⟩ := hu
  obtain ⟨hi, hb⟩ := h 0 h0
  rw [Nat.add_zero] at hi hb
  have hl : isLet (bat s i) = true := by rw [hb]; exact h1
  obtain ⟨n1, n2, n3⟩ := isLet_ne hl
  have hr : runEnd s i = i + u.size := run_at h h2 hs u.size 0 (by omega)
  have hwe : wordEnd s i = i + u.size := by
    unfold wordEnd
    rw [dif_pos hi, if_pos (by rw [bat_get _ _ hi]; exact hl)]
    split
    · rename_i h3
      rw [if_neg]
      · exact hr
      · rintro ⟨_, h39⟩
        rcases hs with hs | ⟨_, hs⟩
        · rw [hr] at h3; exact hs h3
        · apply hs
          rw [← bat_get s _ (by rw [← hr]; exact h3)]
          simp only [hr] at h39
          exact h39
    · exact hr
  refine lx_tok hi n1 n2 n3 ?_
  unfold nextP
  rw [if_pos (by rw [hwe]; omega), hwe]
  show Except.ok ((⟨1, s.extract i (i + u.size), 0, i⟩ : Tok), i + u.size) = _
  rw [sub_at h]
theorem wordEnd_no {s : ByteArray} {i : Nat} (h : isLet (bat s i) = false) : wordEnd s i = i := by
  unfold wordEnd
  split
  · rename_i hi
    rw [if_neg (by rw [bat_get _ _ hi, h]; decide)]
  · rfl
theorem lx_num {s : ByteArray} {i : Nat} {u : ByteArray} (n : Nat) (h : At s i u) (h0 : 0 < u.size) (hd : isDig (bat u 0) = true) (hw : ∀ k, k < u.size → isW (bat u k) = true) (hs : Stop1 s (i + u.size)) (hn : numP u = some n) : Lx s i [⟨2, ⟨#[]⟩, n, i⟩] (i + u.size) := by
  obtain ⟨hi, hb⟩ := h 0 h0
  rw [Nat.add_zero] at hi hb
  have hd' : isDig (bat s i) = true := by rw [hb]; exact hd
  obtain ⟨n1, n2, n3, n4⟩ := isDig_ne hd'
  have hr : runEnd s (i + 1) = i + u.size := run_at h hw hs (u.size - 1) 1 (by omega)
  refine lx_tok hi n1 n2 n3 ?_
  unfold nextP
  rw [wordEnd_no n4, if_neg (by omega), if_pos (by unfold isNumAt; rw [hd']; rfl), hr]
  have e : sub s i (i + u.size) = u := sub_at h
  rw [e, hn]
theorem sub_at' {s : ByteArray} {i n : Nat} {u : ByteArray} (h : At s i u) (hn : u.size = n) : s.extract i (i + n) = u := by subst hn; exact sub_at h
theorem next_sign {s : ByteArray} {i k : Nat} (h1 : isLet (bat s i) = false) (h2 : isNumAt s i = false) (h3 : bat s i ≠ 34) (h4 : bat s i ≠ 39) (h5 : signLen s i = k) (h6 : k ≠ 0) : nextP s i = .ok (⟨4, s.extract i (i + k), 0, i⟩, i + k) := by
  unfold nextP
  rw [wordEnd_no h1, if_neg (Nat.lt_irrefl i), h2, if_neg Bool.false_ne_true, if_neg (fun h => h.elim h3 h4), h5, if_neg h6]
theorem head_sub {s : ByteArray} {i : Nat} {a b : UInt8} (_ : i < s.size) (h : (sub s i (i + 2)).toList = [a, b]) : bat s i = a := by
  rw [ByteArray.toList_eq] at h
  have h0 : (sub s i (i + 2)).data[0]? = some a := by rw [← Array.getElem?_toList, h]; rfl
  have h1 : (s.data.extract i (i + 2))[0]? = some a := by rw [← ByteArray.data_extract]; exact h0
  rw [Array.getElem?_extract] at h1
  unfold bat
  split at h1
  · rw [Nat.add_zero] at h1
    rw [h1]; rfl
  · cases h1
theorem sign_not : ∀ c ∈ signs1, isLet c = false ∧ isDig c = false ∧ c ≠ 32 ∧ c ≠ 9 ∧ c ≠ 59 ∧ c ≠ 37 ∧ c ≠ 34 ∧ c ≠ 39 ∧ c ≠ 60 ∧ c ≠ 62 := by decide +kernel
/-- A sign of one byte. -/
theorem lx_sign {s : ByteArray} {i : Nat} {c : UInt8} (h : At s i ⟨#[c]⟩) (hc : c ∈ signs1) (hs : c = 36 → Stop1 s (i + 1)) : Lx s i [⟨4, ⟨#[c]⟩, 0, i⟩] (i + 1) := by
  obtain ⟨hi, hb⟩ := h.one
  have hcs := sign_not c hc
  obtain ⟨c1, c2, c3, c4, c5, c6, c7, c8, c9, c10⟩ := hcs
  refine lx_tok hi (by rw [hb]; exact c3) (by rw [hb]; exact c4) (by rw [hb]; exact c5) ?_
  have hnum : isNumAt s i = false := by
    unfold isNumAt
    rw [hb, c2]
    have e37 : (c == 37) = false := by simpa using c6
    rw [e37]
    by_cases h36 : c = 36
    · have hr : runEnd s (i + 1) = i + 1 := by
        rcases hs h36 with hs | ⟨hs, _⟩
        · exact runEnd_out _ _ hs
        · by_cases hlt : i + 1 < s.size
          · exact runEnd_no _ _ hlt (by rw [bat_get _ _ hlt]; exact hs)
          · exact runEnd_out _ _ hlt
      rw [hr]
      simp
    · have e36 : (c == 36) = false := by simpa using h36
      rw [e36]
      simp only [Bool.false_or, Bool.false_and]
  have hone : s.extract i (i + 1) = ⟨#[c]⟩ := sub_at' h rfl
  have hsl : signLen s i = 1 := by
    unfold signLen
    rw [if_neg, dif_pos hi, if_pos (by rw [bat_get _ _ hi, hb]; exact hc)]
    rintro ⟨h2, h3⟩
    rcases h3 with h3 | h3
    · have := head_sub hi h3
      rw [hb] at this
      exact c9 this
    · have := head_sub hi h3
      rw [hb] at this
      exact c10 this
  rw [next_sign (by rw [hb]; exact c1) hnum (by rw [hb]; exact c7) (by rw [hb]; exact c8) hsl (by omega), hone]
/-- A sign of two bytes. -/
theorem lx_shift {s : ByteArray} {i : Nat} {c : UInt8} (h : At s i ⟨#[c, c]⟩) (hc : c = 60 ∨ c = 62) : Lx s i [⟨4, ⟨#[c, c]⟩, 0, i⟩] (i + 2) := by
  have h0 := h 0 (by show 0 < 2; decide)
  have h1 := h 1 (by show 1 < 2; decide)
  obtain ⟨hi, hb⟩ := h0
  have hb : bat s i = c := hb
  have hi : i < s.size := hi
  have htwo : s.extract i (i + 2) = ⟨#[c, c]⟩ := sub_at' h rfl
  have hcs : isLet c = false ∧ isDig c = false ∧ c ≠ 32 ∧ c ≠ 9 ∧ c ≠ 59 ∧ (c == 37) = false ∧ c ≠ 34 ∧ c ≠ 39 ∧ (c == 36) = false := by
    rcases hc with rfl | rfl <;> decide
  obtain ⟨c1, c2, c3, c4, c5, c6, c7, c8, c9⟩ := hcs
  refine lx_tok hi (by rw [hb]; exact c3) (by rw [hb]; exact c4) (by rw [hb]; exact c5) ?_
  have hnum : isNumAt s i = false := by
    unfold isNumAt
    rw [hb, c2, c6, c9]
    simp only [Bool.false_or, Bool.false_and]
  have hor : (sub s i (i + 2)).toList = [60, 60] ∨ (sub s i (i + 2)).toList = [62, 62] := by
    have e : sub s i (i + 2) = ⟨#[c, c]⟩ := htwo
    rw [e, ByteArray.toList_eq]
    exact hc.elim (fun h => .inl (by rw [h])) (fun h => .inr (by rw [h]))
  have hsl : signLen s i = 2 := by
    unfold signLen
    exact if_pos ⟨h1.1, hor⟩
  rw [next_sign (by rw [hb]; exact c1) hnum (by rw [hb]; exact c7) (by rw [hb]; exact c8) hsl (by omega), htwo]
end Go.Proofs.YtpkbonfbehhbdaaGreatDoor

/- The text of a number denotes it. No program in sight. -/
namespace Go.Proofs.YtpkbonfbehhbdaaGreatDoor
open Go.RowKit Go.Sort

theorem valGo_snoc (b : Nat) (c : UInt8) : ∀ (l : List UInt8) (n m : Nat), valGo b n l = some m → valGo b n (l ++ [c]) = valGo b m [c]
  | [], n, m, h => by rw [valGo_nil] at h; cases h; rfl
  | a :: l, n, m, h => by
    rw [valGo_cons] at h
    rw [List.cons_append, valGo_cons]
    split at h
    · cases h
    · rename_i h1
      split at h
      · cases h
      · rename_i h2
        rw [if_neg h1, if_neg h2]
        exact valGo_snoc b c l _ m h
theorem digU_hex : ∀ d : Fin 16, digU (up (hexLow d.val)) = d.val := by decide
theorem hexU_in : ∀ d : Fin 16, (48 ≤ (up (hexLow d.val)).toNat ∧ (up (hexLow d.val)).toNat ≤ 57 ∨ 65 ≤ (up (hexLow d.val)).toNat ∧ (up (hexLow d.val)).toNat ≤ 70) ∧ up (up (hexLow d.val)) = up (hexLow d.val) := by decide
theorem digs_in : ∀ (f u : Nat) (c : UInt8), c ∈ (hexDigs f u).map up → (48 ≤ c.toNat ∧ c.toNat ≤ 57 ∨ 65 ≤ c.toNat ∧ c.toNat ≤ 70) ∧ up c = c
  | 0, u, c, h => by simp [hexDigs] at h
  | f + 1, u, c, h => by
    by_cases hu : u < 16
    · rw [hexDigs_small f u hu] at h
      simp at h
      subst h
      exact hexU_in ⟨u, hu⟩
    · rw [hexDigs_big f u (by omega), List.map_append, List.mem_append] at h
      rcases h with h | h
      · exact digs_in f (u / 16) c h
      · simp at h
        subst h
        exact hexU_in ⟨u % 16, Nat.mod_lt _ (by decide)⟩
theorem val_hex : ∀ (f u : Nat), u < 16 ^ f → u ≤ 65535 → 1 ≤ f → valGo 16 0 ((hexDigs f u).map up) = some u
  | 0, u, _, _, h => by omega
  | f + 1, u, h1, h2, _ => by
    by_cases hu : u < 16
    · rw [hexDigs_small f u hu]
      have hd := digU_hex ⟨u, hu⟩
      simp only at hd
      simp only [List.map_cons, List.map_nil]
      rw [valGo_cons, hd, if_neg (by omega), if_neg (by omega), valGo_nil]
      simp
    · have hf : 1 ≤ f := by
        rcases f with _ | f
        · simp at h1; omega
        · omega
      have h3 : u / 16 < 16 ^ f := by rw [Nat.pow_succ] at h1; omega
      rw [hexDigs_big f u (by omega), List.map_append]
      simp only [List.map_cons, List.map_nil]
      rw [valGo_snoc 16 _ _ 0 (u / 16) (val_hex f (u / 16) h3 (by omega) hf)]
      have hd := digU_hex ⟨u % 16, Nat.mod_lt _ (by decide)⟩
      simp only at hd
      rw [valGo_cons, hd, if_neg (by omega), if_neg (by omega), valGo_nil]
      congr 1
      omega
theorem hex_ne (f u : Nat) (hf : 1 ≤ f) : hexDigs f u ≠ [] := by
  rcases f with _ | f
  · omega
  · by_cases hu : u < 16
    · rw [hexDigs_small f u hu]; simp
    · rw [hexDigs_big f u (by omega)]; simp
/-- The bytes of a number's text. -/
theorem numText_bytes (n : Int) (h0 : 0 ≤ n) (h1 : n ≤ 65535) : (numText n).data.toList = if n ≤ 9 then [UInt8.ofNat (48 + n.toNat)] else
    if 57 < (((hexDigs 4 n.toNat).map up).headD 0).toNat then 48 :: ((hexDigs 4 n.toNat).map up ++ [72]) else (hexDigs 4 n.toNat).map up ++ [72] := by
  have hl : (upper ⟨(hexDigs 4 n.toNat).toArray⟩ ++ (⟨#[72]⟩ : ByteArray)).data.toList = (hexDigs 4 n.toNat).map up ++ [72] := by
    rw [ByteArray.data_append]; simp [upper]
  have hg : (upper ⟨(hexDigs 4 n.toNat).toArray⟩ ++ (⟨#[72]⟩ : ByteArray)).data[0]?.getD 0 = ((hexDigs 4 n.toNat).map up).headD 0 := by
    rw [← Array.getElem?_toList, hl]
    have hne := hex_ne 4 n.toNat (by decide)
    cases h : hexDigs 4 n.toNat with
    | nil => exact absurd h hne
    | cons a l => simp
  unfold numText
  rw [if_neg (by omega), hg]
  split
  · rfl
  · split
    · rw [ByteArray.data_append, Array.toList_append, hl]; rfl
    · exact hl
theorem numU_hex (u : List UInt8) (D : List UInt8) (hu : u = D ++ [72]) (hD : ∀ c ∈ D, 48 ≤ c.toNat ∧ c.toNat ≤ 57 ∨ 65 ≤ c.toNat ∧ c.toNat ≤ 70) (hh : (D.headD 99).toNat ≤ 57) (hne : D ≠ []) (n : Nat) (hv : valGo 16 0 D = some n) : numU u = some n := by
  have hm : ∀ c ∈ u, c.toNat ≠ 88 ∧ c.toNat ≠ 36 := by
    intro c hc
    rw [hu] at hc
    rcases List.mem_append.1 hc with h | h
    · have := hD c h; omega
    · rw [List.mem_singleton] at h; subst h; decide
  have h10 : valU 10 u = none := by
    rcases hx : valU 10 u with _ | m
    · rfl
    · have := (valU_mem hx).2 72 (by rw [hu]; simp)
      exact absurd this (by decide)
  have hp1 : ([48, 88] : List UInt8).isPrefixOf u = false := by
    rcases h : ([48, 88] : List UInt8).isPrefixOf u with _ | _
    · rfl
    · obtain ⟨t, ht⟩ := List.isPrefixOf_iff_prefix.1 h
      exact absurd rfl ((hm 88 (by rw [← ht]; simp)).1)
  have hp2 : ([36] : List UInt8).isPrefixOf u = false := by
    rcases h : ([36] : List UInt8).isPrefixOf u with _ | _
    · rfl
    · obtain ⟨t, ht⟩ := List.isPrefixOf_iff_prefix.1 h
      exact absurd rfl ((hm 36 (by rw [← ht]; simp)).2)
  unfold numU
  rw [h10, hp1, hp2]
  have hlast : u.getLast? = some 72 := by rw [hu]; simp
  have hdl : u.dropLast = D := by rw [hu]; simp
  rw [if_neg (by decide), if_neg (by decide), if_pos ⟨hlast, by rw [hdl]; exact hh⟩, hdl]
  have : valU 16 D = some n := by unfold valU; rw [if_neg hne]; exact hv
  rw [this]
  rfl
theorem dig9 : ∀ d : Fin 10, numU [up (UInt8.ofNat (48 + d.val))] = some d.val := by decide +kernel
theorem numP_text (n : Int) (h0 : 0 ≤ n) (h1 : n ≤ 65535) : numP (numText n) = some n.toNat := by
  unfold numP
  have hU : (upper (numText n)).data.toList = (numText n).data.toList.map up := by simp [upper]
  rw [hU, numText_bytes n h0 h1]
  have hin := digs_in 4 n.toNat
  have hne : (hexDigs 4 n.toNat).map up ≠ [] := by simpa using hex_ne 4 n.toNat (by decide)
  have hv := val_hex 4 n.toNat (by omega) (by omega) (by decide)
  have hmm : ((hexDigs 4 n.toNat).map up).map up = (hexDigs 4 n.toNat).map up := by
    rw [List.map_map]
    apply List.map_congr_left
    intro c hc
    exact (hin (up c) (List.mem_map_of_mem hc)).2
  split
  · have := dig9 ⟨n.toNat, by omega⟩
    simpa using this
  · split
    · rename_i h57
      rw [List.map_cons, List.map_append, hmm]
      refine numU_hex _ (48 :: (hexDigs 4 n.toNat).map up) rfl (fun c hc => ?_) (by show (48 : UInt8).toNat ≤ 57; decide) (by simp) n.toNat ?_
      · rcases List.mem_cons.1 hc with rfl | hc
        · exact .inl (by decide)
        · exact (hin c hc).1
      · rw [valGo_cons, show digU 48 = 0 from rfl, if_neg (by decide), if_neg (by decide)]
        exact hv
    · rename_i h57
      rw [List.map_append, hmm]
      refine numU_hex _ ((hexDigs 4 n.toNat).map up) rfl (fun c hc => (hin c hc).1) ?_ hne n.toNat hv
      cases h : (hexDigs 4 n.toNat).map up with
      | nil => exact absurd h hne
      | cons a l => rw [h] at h57; simpa using h57
end Go.Proofs.YtpkbonfbehhbdaaGreatDoor

/- The tokens of the text of an expression have this expression. No program in sight. -/
namespace Go.Proofs.YtpkbonfbehhbdaaGreatDoor
open Go.RowKit Go.Sort

/-- The symbols of an expression are words. -/
def Ex.words : Ex → Prop
  | .num _ => True
  | .sym s => WordOk s ∧ (upper s).toList ≠ [77, 79, 68]
  | .here => True
  | .un _ a => a.words
  | .bin _ a b => a.words ∧ b.words
theorem tnm_sign (c : ByteArray) (i : Int) : tnm ⟨4, c, 0, i⟩ = c := rfl
/-- What is read at an operand's place. -/
def Reads (s : ByteArray) (i j : Nat) (k : Option Nat) (x : Ex) : Prop := ∃ l, Lx s i l j ∧ G exLang k l x
theorem Reads.one {s : ByteArray} {i j : Nat} {x : Ex} (h : Reads s i j none x) (k : Nat) : Reads s i j (some k) x := by
  obtain ⟨l, h1, h2⟩ := h
  exact ⟨l, h1, .one _ _ _ h2⟩
theorem Reads.mono {s : ByteArray} {i j k m : Nat} {x : Ex} (h : Reads s i j (some m) x) (hk : k ≤ m) : Reads s i j (some k) x := by
  obtain ⟨l, h1, h2⟩ := h
  exact ⟨l, h1, h2.mono exLang hk⟩
theorem bat_lit (c : UInt8) : bat ⟨#[c]⟩ 0 = c := rfl
theorem atom_num (n i : Int) : tatom ⟨2, ⟨#[]⟩, n, i⟩ = some (.num n) := by
  have h : (tnm ⟨2, ⟨#[]⟩, n, i⟩).toList = [] := by
    show (⟨#[]⟩ : ByteArray).toList = []
    rw [ByteArray.toList_eq]
  unfold tatom
  rw [h]
  rfl
theorem atom_sym {u : ByteArray} (i : Int) (h : (upper u).toList ≠ [77, 79, 68]) : tatom ⟨1, u, 0, i⟩ = some (.sym u) := by
  have h : (tnm ⟨1, u, 0, i⟩).toList = [] := by
    unfold tnm
    rw [if_neg (show ¬ (1 : Int) = 4 by decide), if_neg (fun h2 => h h2.2)]
    rw [ByteArray.toList_eq]
  unfold tatom
  rw [h]
  rfl
theorem atom_here (i : Int) : tatom ⟨4, ⟨#[36]⟩, 0, i⟩ = some .here := by
  have h : (tnm ⟨4, ⟨#[36]⟩, 0, i⟩).toList = [36] := by
    show (⟨#[36]⟩ : ByteArray).toList = [36]
    rw [ByteArray.toList_eq]
  unfold tatom
  rw [h]
  rfl
theorem hexW (c : UInt8) (h : 48 ≤ c.toNat ∧ c.toNat ≤ 57 ∨ 65 ≤ c.toNat ∧ c.toNat ≤ 70) : isW c = true := by
  unfold isW isLet isDig
  rcases h with h | h
  · simp [h]
  · have : decide (65 ≤ c.toNat ∧ c.toNat ≤ 90) = true := by rw [decide_eq_true_eq]; omega
    rw [this]; simp
theorem bat_data (u : ByteArray) (k : Nat) : bat u k = u.data.toList[k]?.getD 0 := by unfold bat; rw [Array.getElem?_toList]
/-- The bytes of a number's text are digits and letters, the first a digit. -/
theorem numText_ok (n : Int) (h0 : 0 ≤ n) (h1 : n ≤ 65535) : 0 < (numText n).size ∧ isDig (bat (numText n) 0) = true ∧ ∀ k, k < (numText n).size → isW (bat (numText n) k) = true := by
  have hin := digs_in 4 n.toNat
  have hne := hex_ne 4 n.toNat (by decide)
  have hb := numText_bytes n h0 h1
  have hsz : (numText n).size = (numText n).data.toList.length := by rw [Array.length_toList]; rfl
  have key : ∀ l : List UInt8, (numText n).data.toList = l → l ≠ [] → isDig (l.headD 0) = true → (∀ c ∈ l, isW c = true) → 0 < (numText n).size ∧ isDig (bat (numText n) 0) = true ∧ ∀ k, k < (numText n).size → isW (bat (numText n) k) = true := by
    intro l hl hn hd hw
    rw [hl] at hsz
    refine ⟨by rw [hsz]; exact List.length_pos_iff.2 hn, ?_, fun k hk => ?_⟩
    · rw [bat_data, hl]
      cases l with
      | nil => exact absurd rfl hn
      | cons a l => exact hd
    · rw [hsz] at hk
      rw [bat_data, hl, List.getElem?_eq_getElem hk]
      exact hw _ (List.getElem_mem hk)
  have hw : ∀ c ∈ (hexDigs 4 n.toNat).map up ++ [72], isW c = true := by
    intro c hc
    rcases List.mem_append.1 hc with h | h
    · exact hexW c (hin c h).1
    · rw [List.mem_singleton] at h; subst h; rfl
  split at hb
  · refine key _ hb (by simp) ?_ ?_
    · have : ∀ d : Fin 10, isDig (UInt8.ofNat (48 + d.val)) = true := by decide
      exact this ⟨n.toNat, by omega⟩
    · intro c hc
      rw [List.mem_singleton] at hc
      subst hc
      have : ∀ d : Fin 10, isW (UInt8.ofNat (48 + d.val)) = true := by decide
      exact this ⟨n.toNat, by omega⟩
  · split at hb
    · refine key _ hb (by simp) (by show isDig 48 = true; rfl) (fun c hc => ?_)
      rcases List.mem_cons.1 hc with rfl | hc
      · rfl
      · exact hw c hc
    · rename_i h57
      refine key _ hb (by simp) ?_ hw
      cases h : (hexDigs 4 n.toNat).map up with
      | nil => simp at h; exact absurd h hne
      | cons a l =>
        rw [h] at h57
        have ha := (hin a (by rw [h]; simp)).1
        show isDig a = true
        have h57 : ¬ 57 < a.toNat := h57
        unfold isDig
        rw [decide_eq_true_eq]
        omega
theorem reads_brk {s : ByteArray} {i : Nat} {x : Ex} (c : Bool) (h : At s i (brk c x.text)) (hs : Stop1 s (i + (brk c x.text).size))
    (hx : ∀ i, At s i x.text → Stop1 s (i + x.text.size) → Reads s i (i + x.text.size) (if x.kd = 5 then some (lvlS x.nm) else none) x) (hlv : x.kd = 5 → lvlS x.nm ≠ 0) :
    Reads s i (i + (brk c x.text).size) (if c = true then none else if x.kd = 5 then some (lvlS x.nm) else none) x := by
  cases c with
  | false => exact hx i h hs
  | true =>
    have h : At s i (⟨#[40]⟩ ++ x.text ++ ⟨#[41]⟩) := h
    have hsz : (brk true x.text).size = x.text.size + 2 := by
      show (⟨#[40]⟩ ++ x.text ++ ⟨#[41]⟩ : ByteArray).size = _
      rw [ByteArray.size_append, ByteArray.size_append]
      show 1 + x.text.size + 1 = _
      omega
    have h1 := h.left.left
    have h2 : At s (i + 1) x.text := h.left.right
    have h3 := h.right
    have e : i + (⟨#[40]⟩ ++ x.text : ByteArray).size = i + 1 + x.text.size := by
      rw [ByteArray.size_append]
      show i + (1 + _) = _
      omega
    rw [e] at h3
    obtain ⟨hc1, hc2⟩ := h3.one
    obtain ⟨l, hl, hg⟩ := hx (i + 1) h2 (.inr (by rw [hc2]; decide))
    have hg1 : G exLang (some 1) l x := by
      split at hg
      · rename_i h5
        exact hg.mono exLang (by have := hlv h5; omega)
      · exact .one _ _ _ hg
    have ha := lx_sign h1 (by decide) (by intro h; exact absurd h (by decide))
    have hb := lx_sign h3 (by decide) (by intro h; exact absurd h (by decide))
    refine ⟨_, (ha.trans hl).trans (by rw [hsz, show i + (x.text.size + 2) = i + 1 + x.text.size + 1 by omega]; exact hb), ?_⟩
    have hp := G.par (S := exLang) ⟨4, ⟨#[40]⟩, 0, i⟩ ⟨4, ⟨#[41]⟩, 0, (i + 1 + x.text.size : Nat)⟩ l x (by kernel_rfl) (by kernel_rfl) hg1
    rw [if_pos rfl]
    simpa using hp
theorem g_binT (k : Nat) (t : Tok) (l l' : List Tok) (a b : Ex) (s : ByteArray) (h1 : tnm t = s) (hk : k ≤ lvlS s) (h0 : lvlS s ≠ 0) (g1 : G exLang (some (lvlS s)) l a) (g2 : G exLang (some (lvlS s + 1)) l' b) : G exLang (some k) (l ++ t :: l') (.bin s a b) := by
  subst h1
  exact G.bin (S := exLang) k t l l' a b h0 hk g1 g2
theorem op_of {op : ByteArray} (h : lvlS op ≠ 0) : (∃ c : UInt8, op = ⟨#[c]⟩ ∧ c ∈ signs1 ∧ c ≠ 36) ∨ (∃ c : UInt8, op = ⟨#[c, c]⟩ ∧ (c = 60 ∨ c = 62)) ∨ op = sMOD := by
  have h2 := lvlL_op _ h
  have e : ∀ l : List UInt8, op.toList = l → op = ⟨l.toArray⟩ := fun l hl => by
    rw [ByteArray.toList_eq] at hl
    apply ByteArray.ext
    rw [← hl]
  rcases h2 with h | h | h | h | h | h | h | h | h | h
  · exact .inl ⟨124, e _ h, by decide, by decide⟩
  · exact .inl ⟨94, e _ h, by decide, by decide⟩
  · exact .inl ⟨38, e _ h, by decide, by decide⟩
  · exact .inr (.inl ⟨60, e _ h, .inl rfl⟩)
  · exact .inr (.inl ⟨62, e _ h, .inr rfl⟩)
  · exact .inl ⟨43, e _ h, by decide, by decide⟩
  · exact .inl ⟨45, e _ h, by decide, by decide⟩
  · exact .inl ⟨42, e _ h, by decide, by decide⟩
  · exact .inl ⟨47, e _ h, by decide, by decide⟩
  · exact .inr (.inr (e _ h))
theorem mod_word : WordOk sMOD := ⟨by decide, by decide, by decide⟩
theorem mod_name (i : Int) : tnm ⟨1, sMOD, 0, i⟩ = sMOD := by
  have h : (upper sMOD).toList = [77, 79, 68] := by rw [ByteArray.toList_eq]; rfl
  unfold tnm
  rw [if_neg (show ¬ (1 : Int) = 4 by decide), if_pos ⟨rfl, h⟩]
/-- An operator between two spaces. -/
theorem lx_op {s : ByteArray} {i : Nat} {op : ByteArray} (h : At s i op) (hop : lvlS op ≠ 0) (hs : i + op.size < s.size ∧ bat s (i + op.size) = 32) : ∃ t, Lx s i [t] (i + op.size) ∧ tnm t = op := by
  have hst : Stop1 s (i + op.size) := .inr (by rw [hs.2]; decide)
  rcases op_of hop with ⟨c, rfl, hc, h36⟩ | ⟨c, rfl, hc⟩ | rfl
  · exact ⟨_, lx_sign h hc (fun e => absurd e h36), rfl⟩
  · exact ⟨_, lx_shift h hc, rfl⟩
  · exact ⟨_, lx_word h mod_word hst, mod_name _⟩
theorem good_lv : ∀ x : Ex, x.good → x.kd = 5 → lvlS x.nm ≠ 0
  | .num _, _, h => absurd h (by simp [Ex.kd])
  | .sym _, _, h => absurd h (by simp [Ex.kd])
  | .here, _, h => absurd h (by simp [Ex.kd])
  | .un _ _, _, h => absurd h (by simp [Ex.kd])
  | .bin _ _ _, h, _ => h.1
theorem reads_text : ∀ (x : Ex), x.good → x.words → ∀ (s : ByteArray) (i : Nat), At s i x.text → Stop1 s (i + x.text.size) → Reads s i (i + x.text.size) (if x.kd = 5 then some (lvlS x.nm) else none) x
  | .num n, hg, _, s, i, h, hs => by
    obtain ⟨h1, h2, h3⟩ := numText_ok n hg.1 hg.2
    have hl := lx_num n.toNat h h1 h2 h3 hs (numP_text n hg.1 hg.2)
    refine ⟨_, hl, ?_⟩
    have e : ((n.toNat : Nat) : Int) = n := Int.toNat_of_nonneg hg.1
    rw [e]
    exact G.atom (S := exLang) _ _ (atom_num n i)
  | .sym u, hg, hw, s, i, h, hs => ⟨_, lx_word h hw.1 hs, G.atom (S := exLang) _ _ (atom_sym i hw.2)⟩
  | .here, _, _, s, i, h, hs => ⟨_, lx_sign h (by decide) (fun _ => hs), G.atom (S := exLang) _ _ (atom_here i)⟩
  | .un op a, hg, hw, s, i, h, hs => by
    have h : At s i (op ++ brk (a.kd == 5) a.text) := h
    have hs : Stop1 s (i + (op ++ brk (a.kd == 5) a.text).size) := hs
    show Reads s i (i + (op ++ brk (a.kd == 5) a.text).size) none (.un op a)
    obtain ⟨c, rfl, hc, h36, hu⟩ : ∃ c : UInt8, op = ⟨#[c]⟩ ∧ c ∈ signs1 ∧ c ≠ 36 ∧ (c = 45 ∨ c = 43 ∨ c = 126) := by
      have e : ∀ l : List UInt8, op.toList = l → op = ⟨l.toArray⟩ := fun l hl => by
        rw [ByteArray.toList_eq] at hl
        apply ByteArray.ext
        rw [← hl]
      rcases hg.1 with h | h | h
      · exact ⟨45, e _ h, by decide, by decide, .inl rfl⟩
      · exact ⟨43, e _ h, by decide, by decide, .inr (.inl rfl)⟩
      · exact ⟨126, e _ h, by decide, by decide, .inr (.inr rfl)⟩
    have hsz : i + (⟨#[c]⟩ ++ brk (a.kd == 5) a.text : ByteArray).size = i + 1 + (brk (a.kd == 5) a.text).size := by
      rw [ByteArray.size_append]
      show i + (1 + _) = _
      omega
    rw [hsz] at hs ⊢
    have h2 : At s (i + 1) (brk (a.kd == 5) a.text) := h.right
    have hlv := good_lv a hg.2
    have hr := reads_brk (a.kd == 5) h2 hs (fun i h h' => reads_text a hg.2 hw s i h h') hlv
    have hr2 : Reads s (i + 1) (i + 1 + (brk (a.kd == 5) a.text).size) none a := by
      by_cases h5 : a.kd = 5
      · have : (a.kd == 5) = true := by simpa using h5
        rw [this] at hr ⊢
        simpa using hr
      · have : (a.kd == 5) = false := by simpa using h5
        rw [this] at hr ⊢
        simpa [h5] using hr
    obtain ⟨l, hl, hgr⟩ := hr2
    refine ⟨_, (lx_sign h.left hc (fun e => absurd e h36)).trans hl, ?_⟩
    have hU : tU ⟨4, ⟨#[c]⟩, 0, i⟩ = true := by
      unfold tU
      show ((⟨#[c]⟩ : ByteArray).toList == [45] || (⟨#[c]⟩ : ByteArray).toList == [43] || (⟨#[c]⟩ : ByteArray).toList == [126]) = true
      rw [ByteArray.toList_eq]
      rcases hu with rfl | rfl | rfl <;> rfl
    exact G.un (S := exLang) ⟨4, ⟨#[c]⟩, 0, i⟩ l a hU hgr
  | .bin op a b, hg, hw, s, i, h, hs => by
    obtain ⟨A, hA⟩ : ∃ A, A = brk (a.kd == 5 && decide (lvlS a.nm < lvlS op)) a.text := ⟨_, rfl⟩
    obtain ⟨B, hB⟩ : ∃ B, B = brk (b.kd == 5 && decide (lvlS b.nm ≤ lvlS op)) b.text := ⟨_, rfl⟩
    have h : At s i (A ++ ⟨#[32]⟩ ++ op ++ ⟨#[32]⟩ ++ B) := by rw [hA, hB]; exact h
    have hs : Stop1 s (i + (A ++ ⟨#[32]⟩ ++ op ++ ⟨#[32]⟩ ++ B).size) := by rw [hA, hB]; exact hs
    have hgoal : Reads s i (i + (A ++ ⟨#[32]⟩ ++ op ++ ⟨#[32]⟩ ++ B).size) (some (lvlS op)) (.bin op a b) := by
      have hsz : (A ++ ⟨#[32]⟩ ++ op ++ ⟨#[32]⟩ ++ B : ByteArray).size = A.size + 1 + op.size + 1 + B.size := by
        rw [ByteArray.size_append, ByteArray.size_append, ByteArray.size_append, ByteArray.size_append]; rfl
      have e1 : (A ++ ⟨#[32]⟩ : ByteArray).size = A.size + 1 := by rw [ByteArray.size_append]; rfl
      have e2 : (A ++ ⟨#[32]⟩ ++ op : ByteArray).size = A.size + 1 + op.size := by rw [ByteArray.size_append, e1]
      have e3 : (A ++ ⟨#[32]⟩ ++ op ++ ⟨#[32]⟩ : ByteArray).size = A.size + 1 + op.size + 1 := by rw [ByteArray.size_append, e2]; rfl
      have hAt := h.left.left.left.left
      have hb1 := h.left.left.left.right
      have hop := h.left.left.right
      rw [e1] at hop
      have hb2 := h.left.right
      rw [e2] at hb2
      have hBt := h.right
      rw [e3] at hBt
      obtain ⟨x1, x2⟩ := hb1.one
      obtain ⟨y1, y2⟩ := hb2.one
      rw [hsz] at hs ⊢
      have hlva := good_lv a hg.2.1
      have hlvb := good_lv b hg.2.2
      have hra : Reads s i (i + A.size) (some (lvlS op)) a := by
        rw [hA] at hAt x1 x2 ⊢
        have hr := reads_brk _ hAt (.inr (by rw [x2]; decide)) (fun i h h' => reads_text a hg.2.1 hw.1 s i h h') hlva
        by_cases h5 : a.kd = 5
        · by_cases hlt : lvlS a.nm < lvlS op
          · rw [if_pos (by simp [h5, hlt])] at hr
            exact hr.one _
          · rw [if_neg (by simp [hlt]), if_pos h5] at hr
            exact hr.mono (by omega)
        · rw [if_neg (by simp [h5]), if_neg h5] at hr
          exact hr.one _
      have hrb : Reads s (i + A.size + 1 + op.size + 1) (i + A.size + 1 + op.size + 1 + B.size) (some (lvlS op + 1)) b := by
        rw [show i + (A.size + 1 + op.size + 1) = i + A.size + 1 + op.size + 1 by omega] at hBt
        rw [show i + (A.size + 1 + op.size + 1 + B.size) = i + A.size + 1 + op.size + 1 + B.size by omega] at hs
        rw [hB] at hBt hs ⊢
        have hr := reads_brk _ hBt hs (fun i h h' => reads_text b hg.2.2 hw.2 s i h h') hlvb
        by_cases h5 : b.kd = 5
        · by_cases hlt : lvlS b.nm ≤ lvlS op
          · rw [if_pos (by simp [h5, hlt])] at hr
            exact hr.one _
          · rw [if_neg (by simp [hlt]), if_pos h5] at hr
            exact hr.mono (by omega)
        · rw [if_neg (by simp [h5]), if_neg h5] at hr
          exact hr.one _
      obtain ⟨la, ha1, ha2⟩ := hra
      obtain ⟨lb, hb1, hb2⟩ := hrb
      rw [show i + (A.size + 1) = i + A.size + 1 by omega] at hop
      rw [show i + (A.size + 1 + op.size) = i + A.size + 1 + op.size by omega] at y1 y2
      obtain ⟨t, ht1, ht2⟩ := lx_op hop hg.1 ⟨y1, y2⟩
      have hl := ((ha1.trans (lx_blank x1 x2)).trans ht1).trans ((lx_blank y1 y2).trans hb1)
      refine ⟨_, by rw [show i + (A.size + 1 + op.size + 1 + B.size) = i + A.size + 1 + op.size + 1 + B.size by omega]; exact hl, ?_⟩
      have hgb := g_binT (lvlS op) t la lb a b op ht2 (Nat.le_refl _) hg.1 ha2 hb2
      simpa using hgb
    rw [hA, hB] at hgoal
    exact hgoal
end Go.Proofs.YtpkbonfbehhbdaaGreatDoor

/- What the tokens of a line are: words, and how long they are. No program in sight. -/
namespace Go.Proofs.YtpkbonfbehhbdaaGreatDoor
open Go.RowKit Go.Sort

theorem run_all (s : ByteArray) (i : Nat) : ∀ k, i ≤ k → k < runEnd s i → isW (bat s k) = true := by
  by_cases h : i < s.size
  · cases hw : isW s[i] with
    | true =>
      intro k h1 h2
      rw [runEnd_go s i h hw] at h2
      rcases Nat.eq_or_lt_of_le h1 with rfl | h1
      · rw [← bat_get _ _ h]; exact hw
      · exact run_all s (i + 1) k h1 h2
    | false => intro k h1 h2; rw [runEnd_no s i h hw] at h2; omega
  · intro k h1 h2; rw [runEnd_out s i h] at h2; omega
  termination_by s.size - i
theorem bat_sub (s : ByteArray) (i j k : Nat) (h : i + k < j) (hj : j ≤ s.size) : bat (sub s i j) k = bat s (i + k) := by
  unfold bat
  rw [show (sub s i j).data = s.data.extract i j from ByteArray.data_extract .., Array.getElem?_extract, if_pos (by show k < min j s.size - i; omega)]
theorem sub_size (s : ByteArray) (i j : Nat) (hj : j ≤ s.size) : (sub s i j).size = j - i := by
  show (s.extract i j).size = _
  rw [ByteArray.size_extract]
  omega
/-- What a token is, where it is a word. -/
def TokW (t : Tok) : Prop := t.kind = 1 → WordOk t.text ∨ (upper t.text).toList = [65, 70, 39]
/-- How much of a line a token takes at least. -/
def tl (t : Tok) : Nat := if t.kind = 1 ∨ t.kind = 4 then t.text.size else if t.kind = 0 then 0 else 1
def tls (l : List Tok) : Nat := (l.map tl).sum
theorem next_word (s : ByteArray) (i : Nat) (hi : i < s.size) (h : i < wordEnd s i) : WordOk (sub s i (wordEnd s i)) ∨ (upper (sub s i (wordEnd s i))).toList = [65, 70, 39] := by
  have hle := wordEnd_le s i (by omega)
  have hrl := runEnd_le s i (by omega)
  unfold wordEnd at h ⊢
  rw [dif_pos hi] at h ⊢
  by_cases hl : isLet s[i] = true
  · rw [if_pos hl] at h ⊢
    have hr : i < runEnd s i := by
      have hw : isW s[i] = true := by unfold isW; rw [hl]; rfl
      rw [runEnd_go s i hi hw]
      have := runEnd_ge s (i + 1)
      omega
    have hword : WordOk (sub s i (runEnd s i)) := by
      refine ⟨by rw [sub_size _ _ _ hrl]; omega, ?_, fun k hk => ?_⟩
      · rw [bat_sub s i _ 0 (by omega) hrl, Nat.add_zero, ← bat_get _ _ hi]; exact hl
      · rw [sub_size _ _ _ hrl] at hk
        rw [bat_sub s i _ k (by omega) hrl]
        exact run_all s i (i + k) (by omega) (by omega)
    by_cases h2 : runEnd s i < s.size
    · rw [dif_pos h2]
      by_cases h3 : (upper (sub s i (runEnd s i))).toList = [65, 70] ∧ s[runEnd s i] = 39
      · rw [if_pos h3]
        right
        have e : sub s i (runEnd s i + 1) = sub s i (runEnd s i) ++ ⟨#[39]⟩ := by
          apply ByteArray.ext
          rw [ByteArray.data_append]
          show (s.extract i (runEnd s i + 1)).data = (s.extract i (runEnd s i)).data ++ #[39]
          rw [ByteArray.data_extract, ByteArray.data_extract, ← h3.2]
          exact Array.extract_succ_right (by omega) h2
        have e2 : (upper (sub s i (runEnd s i + 1))).toList = (upper (sub s i (runEnd s i))).toList ++ [39] := by
          rw [e, ByteArray.toList_eq, ByteArray.toList_eq]
          unfold upper
          rw [ByteArray.data_append]
          simp
          rfl
        rw [e2, h3.1]
        rfl
      · rw [if_neg h3]; exact .inl hword
    · rw [dif_neg h2]; exact .inl hword
  · rw [if_neg hl] at h
    exact absurd h (Nat.lt_irrefl _)
theorem next_facts (s : ByteArray) (i : Nat) (hi : i < s.size) (t : Tok) (n : Nat) (h : nextP s i = .ok (t, n)) : TokW t ∧ i + tl t ≤ n := by
  have hbd := nextP_bd s i hi t n h
  unfold nextP at h
  split at h
  · rename_i hw
    cases h
    have hle := wordEnd_le s i (by omega)
    refine ⟨fun _ => next_word s i hi hw, ?_⟩
    show i + (sub s i (wordEnd s i)).size ≤ _
    rw [sub_size _ _ _ hle]
    omega
  · split at h
    · split at h
      · cases h
        exact ⟨fun h => absurd h (by show ¬ (2 : Int) = 1; decide), by show i + 1 ≤ _; omega⟩
      · cases h
    · split at h
      · split at h
        · cases h
          exact ⟨fun h => absurd h (by show ¬ (3 : Int) = 1; decide), by show i + 1 ≤ _; omega⟩
        · cases h
      · split at h
        · cases h
        · cases h
          refine ⟨fun h => absurd h (by show ¬ (4 : Int) = 1; decide), ?_⟩
          show i + (sub s i (i + signLen s i)).size ≤ _
          rw [sub_size _ _ _ (signLen_le s i hi).1]
          omega
theorem tls_append (l m : List Tok) : tls (l ++ m) = tls l + tls m := by simp [tls]
theorem toksGo_tl (s : ByteArray) (i : Nat) (acc l : List Tok) (hi : i ≤ s.size) (h : toksGo s i acc = .ok l) : tls l + i ≤ tls acc + s.size := by
  by_cases h1 : moreAt s (skipEnd s i) = true
  · cases hn : nextP s (skipEnd s i) with
    | error e => rw [toksGo_err s i acc e h1 hn] at h; cases h
    | ok x =>
      obtain ⟨t, n⟩ := x
      have hl := moreAt_lt h1
      have hb := nextP_bd s _ hl t n hn
      have hg := skipEnd_ge s i
      have hf := (next_facts s _ hl t n hn).2
      rw [toksGo_step s i acc t n h1 hn] at h
      have := toksGo_tl s n (acc ++ [t]) l hb.2.1 h
      rw [tls_append] at this
      have e : tls [t] = tl t := by simp [tls]
      rw [e] at this
      omega
  · rw [toksGo_end s i acc (by simpa using h1)] at h
    cases h
    rw [tls_append]
    have e : tls [⟨0, ⟨#[]⟩, 0, (skipEnd s i : Nat)⟩] = 0 := rfl
    rw [e]
    omega
  termination_by s.size - i
theorem toksP_facts {s : ByteArray} {l : List Tok} (h : toksP s = .ok l) : (∀ t ∈ l, TokW t) ∧ tls l ≤ s.size := by
  unfold toksP at h
  split at h
  · cases h
  · refine ⟨toksGo_all s 0 [] l h _ (fun t ht => by cases ht) (fun j h => absurd h (by show ¬ (0 : Int) = 1; decide)) (fun j n t hj hn => (next_facts s j hj t n hn).1), ?_⟩
    have := toksGo_tl s 0 [] l (Nat.zero_le _) h
    simpa [tls] using this
theorem tls_drop (l : List Tok) : tls l.dropLast ≤ tls l := by
  rcases List.eq_nil_or_concat l with rfl | ⟨m, t, rfl⟩
  · exact Nat.le_refl _
  · rw [List.concat_eq_append, List.dropLast_concat, tls_append]
    omega
end Go.Proofs.YtpkbonfbehhbdaaGreatDoor

/- The text of an expression of a short line is short; its tokens have the same expression. No program in sight. -/
namespace Go.Proofs.YtpkbonfbehhbdaaGreatDoor
open Go.RowKit Go.Sort

/-- How much of a line an expression takes at least, the brackets of its text counted. -/
def Ex.wt : Ex → Nat
  | .num _ => 1
  | .sym s => s.size
  | .here => 1
  | .un op a => op.size + a.wt + (if a.kd = 5 then 2 else 0)
  | .bin op a b => op.size + a.wt + b.wt + (if a.kd = 5 ∧ lvlS a.nm < lvlS op then 2 else 0) + (if b.kd = 5 ∧ lvlS b.nm ≤ lvlS op then 2 else 0)
theorem toList_size (s : ByteArray) : s.toList.length = s.size := by rw [ByteArray.toList_eq, Array.length_toList]; rfl
theorem tnm_tl (t : Tok) (h : tnm t ≠ ⟨#[]⟩) : tl t = (tnm t).size := by
  unfold tl tnm at *
  by_cases h4 : t.kind = 4
  · rw [if_pos h4, if_pos (.inr h4)]
  · rw [if_neg h4] at h ⊢
    by_cases h1 : t.kind = 1 ∧ (upper t.text).toList = [77, 79, 68]
    · rw [if_pos h1, if_pos (.inl h1.1)]
      have := congrArg List.length h1.2
      rw [toList_size, upper_len] at this
      rw [this]; rfl
    · rw [if_neg h1] at h
      exact absurd rfl h
theorem tnm_ne {t : Tok} {l : List UInt8} (h : (tnm t).toList = l) (hl : l ≠ []) : tl t = l.length := by
  have hs : (tnm t).size = l.length := by rw [← toList_size, h]
  rw [tnm_tl t ?_, hs]
  intro e
  rw [e, ByteArray.toList_eq] at h
  exact hl h.symm
theorem atom_wt {t : Tok} {x : Ex} (h : tatom t = some x) : x.wt ≤ tl t ∧ x.kd ≠ 5 := by
  unfold tatom at h
  split at h
  · rename_i h36
    cases h
    exact ⟨by rw [tnm_ne h36 (by simp)]; exact Nat.le_refl _, by decide⟩
  · split at h
    · cases h
    · split at h
      · rename_i h1
        cases h
        refine ⟨?_, by simp [Ex.kd]⟩
        unfold tl
        rw [if_pos (.inl h1)]
        exact Nat.le_refl _
      · split at h
        · rename_i h2
          cases h
          refine ⟨?_, by simp [Ex.kd]⟩
          unfold tl
          rw [if_neg (by rw [h2]; decide), if_neg (by rw [h2]; decide)]
          exact Nat.le_refl _
        · split at h
          · rename_i h3
            cases h
            refine ⟨?_, by simp [Ex.kd]⟩
            unfold tl
            rw [if_neg (by rw [h3.1]; decide), if_neg (by rw [h3.1]; decide)]
            exact Nat.le_refl _
          · cases h
theorem tls_cons (t : Tok) (l : List Tok) : tls (t :: l) = tl t + tls l := by simp [tls]
theorem tls_nil : tls [] = 0 := rfl
/-- The brackets that an expression has at its place. -/
def extw : Option Nat → Ex → Nat
  | none, x => if x.kd = 5 then 2 else 0
  | some k, x => if x.kd = 5 ∧ lvlS x.nm < k then 2 else 0
theorem extw_none (x : Ex) : extw none x = if x.kd = 5 then 2 else 0 := rfl
theorem extw_some (k : Nat) (x : Ex) : extw (some k) x = if x.kd = 5 ∧ lvlS x.nm < k then 2 else 0 := rfl
theorem extw_le (k : Option Nat) (x : Ex) : extw k x ≤ extw none x := by
  cases k with
  | none => exact Nat.le_refl _
  | some k =>
    rw [extw_none, extw_some]
    by_cases h : x.kd = 5
    · rw [if_pos h]; split <;> decide
    · rw [if_neg h, if_neg (fun h2 => h h2.1)]; exact Nat.le_refl _
theorem extw_two (k : Option Nat) (x : Ex) : extw k x ≤ 2 := by
  refine Nat.le_trans (extw_le k x) ?_
  rw [extw_none]
  split <;> decide
theorem wt_gram {k : Option Nat} {l : List Tok} {x : Ex} (h : G exLang k l x) : x.wt + extw k x ≤ tls l := by
  induction h with
  | atom t e ha =>
    obtain ⟨h1, h2⟩ := atom_wt ha
    have e0 : extw none e = 0 := if_neg h2
    rw [e0, tls_cons, tls_nil]
    omega
  | par t t' l e h1 h2 hg ih =>
    have hL : tL t = true := h1
    have hR : tR t' = true := h2
    have e1 : tl t = 1 := tnm_ne (l := [40]) (by simpa [tL] using hL) (by simp)
    have e2 : tl t' = 1 := tnm_ne (l := [41]) (by simpa [tR] using hR) (by simp)
    rw [tls_cons, tls_append, tls_cons, tls_nil, e1, e2]
    have h4 := extw_two none e
    omega
  | un t l a h0 hg ih =>
    have hU : tU t = true := h0
    have hne : tl t = (tnm t).size := by
      have : (tnm t).toList = [45] ∨ (tnm t).toList = [43] ∨ (tnm t).toList = [126] := by simpa [tU, or_assoc] using hU
      have hs := toList_size (tnm t)
      rcases this with h | h | h
      · rw [tnm_ne h (by simp), ← hs, h]
      · rw [tnm_ne h (by simp), ← hs, h]
      · rw [tnm_ne h (by simp), ← hs, h]
    have e0 : extw none (exLang.un t a) = 0 := by rw [extw_none]; exact if_neg (show ¬ (4 : Int) = 5 by decide)
    have e1 : (exLang.un t a).wt = (tnm t).size + a.wt + extw none a := rfl
    rw [e0, e1, tls_cons, hne]
    omega
  | one k l x hg ih =>
    have := extw_le (some k) x
    omega
  | bin k t l l' a b h0 hk hg1 hg2 ih1 ih2 =>
    have h0' : lvlS (tnm t) ≠ 0 := h0
    have hk' : k ≤ lvlS (tnm t) := hk
    have hne : tl t = (tnm t).size := tnm_tl t (by
      intro e
      rw [e] at h0'
      exact h0' lvl_none)
    have e0 : extw (some k) (exLang.bin t a b) = 0 := by rw [extw_some]; exact if_neg (fun h => by have : lvlS (tnm t) < k := h.2; omega)
    have e1 : (exLang.bin t a b).wt = (tnm t).size + a.wt + b.wt + extw (some (lvlS (tnm t))) a + (if b.kd = 5 ∧ lvlS b.nm ≤ lvlS (tnm t) then 2 else 0) := rfl
    have e2 : (if b.kd = 5 ∧ lvlS b.nm ≤ lvlS (tnm t) then 2 else 0) = extw (some (lvlS (tnm t) + 1)) b := by
      rw [extw_some]
      by_cases h : b.kd = 5 ∧ lvlS b.nm ≤ lvlS (tnm t)
      · rw [if_pos h, if_pos ⟨h.1, Nat.lt_succ_of_le h.2⟩]
      · rw [if_neg h, if_neg (fun h2 => h ⟨h2.1, Nat.le_of_lt_succ h2.2⟩)]
    have ih1' : a.wt + extw (some (lvlS (tnm t))) a ≤ tls l := ih1
    have ih2' : b.wt + extw (some (lvlS (tnm t) + 1)) b ≤ tls l' := ih2
    rw [e0, e1, e2, tls_append, tls_cons, hne]
    omega
theorem numText_six (n : Int) (h0 : 0 ≤ n) (h1 : n ≤ 65535) : (numText n).size ≤ 6 := by
  have hb := congrArg List.length (numText_bytes n h0 h1)
  have hs : (numText n).data.toList.length = (numText n).size := Array.length_toList
  have h4 := hexDigs_len 4 n.toNat
  rw [hs] at hb
  rw [hb]
  repeat' split
  all_goals simp
  all_goals omega
theorem op_pos {op : ByteArray} (h : lvlS op ≠ 0) : 1 ≤ op.size := by
  rcases Nat.eq_zero_or_pos op.size with h0 | h0
  · exfalso
    have : op = ⟨#[]⟩ := by
      apply ByteArray.ext
      exact Array.eq_empty_of_size_eq_zero h0
    subst this
    exact h lvl_none
  · exact h0
theorem brk_wt (c : Bool) (x : Ex) (k : Nat) (hc : k = if c = true then 2 else 0) : (brk c x.text).size = x.text.size + k := by
  cases c with
  | false => rw [hc]; rfl
  | true =>
    rw [hc]
    show (⟨#[40]⟩ ++ x.text ++ ⟨#[41]⟩ : ByteArray).size = _
    rw [ByteArray.size_append, ByteArray.size_append]
    show 1 + _ + 1 = _ + 2
    omega
theorem text_wt : ∀ x : Ex, x.good → 2 * x.text.size ≤ 9 * x.wt + 3
  | .num n, h => by have := numText_six n h.1 h.2; show 2 * (numText n).size ≤ 9 * 1 + 3; omega
  | .sym s, _ => by show 2 * s.size ≤ 9 * s.size + 3; omega
  | .here, _ => by show 2 * 1 ≤ 9 * 1 + 3; omega
  | .un op a, h => by
    have h1 := text_wt a h.2
    have hb := brk_wt (a.kd == 5) a _ rfl
    have e : (if (a.kd == 5) = true then 2 else 0) = (if a.kd = 5 then 2 else 0) := by simp
    rw [e] at hb
    show 2 * (op ++ brk (a.kd == 5) a.text).size ≤ 9 * (op.size + a.wt + (if a.kd = 5 then 2 else 0)) + 3
    rw [ByteArray.size_append, hb]
    omega
  | .bin op a b, h => by
    have h1 := text_wt a h.2.1
    have h2 := text_wt b h.2.2
    have h3 := op_pos h.1
    have ha := brk_wt (a.kd == 5 && decide (lvlS a.nm < lvlS op)) a _ rfl
    have hb := brk_wt (b.kd == 5 && decide (lvlS b.nm ≤ lvlS op)) b _ rfl
    have ea : (if (a.kd == 5 && decide (lvlS a.nm < lvlS op)) = true then 2 else 0) = (if a.kd = 5 ∧ lvlS a.nm < lvlS op then 2 else 0) := by simp
    have eb : (if (b.kd == 5 && decide (lvlS b.nm ≤ lvlS op)) = true then 2 else 0) = (if b.kd = 5 ∧ lvlS b.nm ≤ lvlS op then 2 else 0) := by simp
    rw [ea] at ha
    rw [eb] at hb
    show 2 * (brk (a.kd == 5 && decide (lvlS a.nm < lvlS op)) a.text ++ ⟨#[32]⟩ ++ op ++ ⟨#[32]⟩ ++ brk (b.kd == 5 && decide (lvlS b.nm ≤ lvlS op)) b.text).size ≤ 9 * (op.size + a.wt + b.wt + (if a.kd = 5 ∧ lvlS a.nm < lvlS op then 2 else 0) + (if b.kd = 5 ∧ lvlS b.nm ≤ lvlS op then 2 else 0)) + 3
    rw [ByteArray.size_append, ByteArray.size_append, ByteArray.size_append, ByteArray.size_append, ha, hb]
    show 2 * (_ + 1 + op.size + 1 + _) ≤ _
    omega
/-- The symbols are words: the reserved words are none. -/
theorem af_resv (s : ByteArray) (h : (upper s).toList = [65, 70, 39]) : resv s.data.toList = true := by
  unfold resv
  have e : (⟨s.data.toList.toArray⟩ : ByteArray) = s := by apply ByteArray.ext; simp
  rw [e]
  have hn : namedL s = wlist (fun x => x.toList == [65, 70, 39]) 5 := by unfold namedL; rw [h]
  rw [hn]
  decide +kernel
theorem words_gram {k : Option Nat} {l : List Tok} {x : Ex} (h : G exLang k l x) : (∀ t ∈ l, TokW t) → (∀ y ∈ x.syms, resv y.data.toList = false) → x.words := by
  induction h with
  | atom t e ha =>
    intro hw hr
    have ht := hw t (by simp)
    have ha : tatom t = some e := ha
    unfold tatom at ha
    split at ha
    · cases ha; trivial
    · rename_i h36
      split at ha
      · cases ha
      · rename_i hn
        have hn := Decidable.of_not_not hn
        split at ha
        · rename_i h1
          cases ha
          have hne : (upper t.text).toList ≠ [77, 79, 68] := by
            intro hm
            unfold tnm at hn
            rw [if_neg (by rw [h1]; decide), if_pos ⟨h1, hm⟩, ByteArray.toList_eq] at hn
            cases hn
          rcases ht h1 with h | h
          · exact ⟨h, hne⟩
          · have := hr t.text (by simp [Ex.syms])
            rw [af_resv t.text h] at this
            cases this
        · split at ha
          · cases ha; trivial
          · split at ha
            · cases ha; trivial
            · cases ha
  | par t t' l e h1 h2 hg ih => intro hw hr; exact ih (fun u hu => hw u (by simp [hu])) hr
  | un t l a h0 hg ih => intro hw hr; exact ih (fun u hu => hw u (List.mem_cons_of_mem _ hu)) hr
  | one k l x hg ih => exact ih
  | bin k t l l' a b h0 hk hg1 hg2 ih1 ih2 =>
    intro hw hr
    exact ⟨ih1 (fun u hu => hw u (by simp [hu])) (fun y hy => hr y (by show y ∈ a.syms ++ b.syms; simp [hy])), ih2 (fun u hu => hw u (by simp [hu])) (fun y hy => hr y (by show y ∈ a.syms ++ b.syms; simp [hy]))⟩
end Go.Proofs.YtpkbonfbehhbdaaGreatDoor

/- The text of an expression is parsed to it, alone, in brackets and in a sum. No program in sight. -/
namespace Go.Proofs.YtpkbonfbehhbdaaGreatDoor
open Go.RowKit Go.Sort

theorem parse_reads {s : ByteArray} {x : Ex} (hr : Reads s 0 s.size (some 1) x) (hsz : s.size ≤ 1024) (hres : (oSyms (some x)).any resv = false) : parseL s = (0, some x) := by
  obtain ⟨l, hl, hg⟩ := hr
  have hend : moreAt s (skipEnd s s.size) = false := by
    rw [skipEnd_out s s.size (Nat.lt_irrefl _)]
    unfold moreAt
    simp
  have ht : toksP s = .ok (l ++ [⟨0, ⟨#[]⟩, 0, (skipEnd s s.size : Nat)⟩]) := by
    unfold toksP
    rw [if_neg (by omega), hl [], List.nil_append, toksGo_end s s.size l hend]
  unfold parseL
  rw [ht]
  show parseR (l ++ [_]).dropLast = _
  rw [List.dropLast_concat]
  exact parseR_gram hg hres
theorem stop_end (s : ByteArray) : Stop1 s s.size := .inl (Nat.lt_irrefl _)
theorem reads_one {s : ByteArray} {i : Nat} {x : Ex} (hg : x.good) (hw : x.words) (h : At s i x.text) (hs : Stop1 s (i + x.text.size)) : Reads s i (i + x.text.size) (some 1) x := by
  have hr := reads_text x hg hw s i h hs
  by_cases h5 : x.kd = 5
  · rw [if_pos h5] at hr
    exact hr.mono (by have := good_lv x hg h5; omega)
  · rw [if_neg h5] at hr
    exact hr.one _
theorem reads_par {s : ByteArray} {i : Nat} {x : Ex} (hg : x.good) (hw : x.words) (h : At s i (brk true x.text)) (hs : Stop1 s (i + (brk true x.text).size)) : Reads s i (i + (brk true x.text).size) none x := by
  have hr := reads_brk true h hs (fun i h h' => reads_text x hg hw s i h h') (good_lv x hg)
  simpa using hr
theorem parse_text {x : Ex} (hg : x.good) (hw : x.words) (hsz : x.text.size ≤ 1024) (hres : (oSyms (some x)).any resv = false) : parseL x.text = (0, some x) := by
  refine parse_reads ?_ hsz hres
  have h := reads_one (i := 0) hg hw (At.self x.text) (by rw [Nat.zero_add]; exact stop_end _)
  rwa [Nat.zero_add] at h
theorem parse_par {x : Ex} (hg : x.good) (hw : x.words) (hsz : (brk true x.text).size ≤ 1024) (hres : (oSyms (some x)).any resv = false) : parseL (brk true x.text) = (0, some x) := by
  refine parse_reads ?_ hsz hres
  have h := reads_par (i := 0) hg hw (At.self (brk true x.text)) (by rw [Nat.zero_add]; exact stop_end _)
  rw [Nat.zero_add] at h
  exact h.one 1
def sumText (x y : Ex) : ByteArray := brk true x.text ++ ⟨#[32]⟩ ++ ⟨#[43]⟩ ++ ⟨#[32]⟩ ++ brk true y.text
def sumEx (x y : Ex) : Ex := .bin ⟨#[43]⟩ x y
theorem parse_sum {x y : Ex} (hg : x.good) (hw : x.words) (hg2 : y.good) (hw2 : y.words) (hsz : (sumText x y).size ≤ 1024) (hres : (oSyms (some x)).any resv = false) (hres2 : (oSyms (some y)).any resv = false) : parseL (sumText x y) = (0, some (sumEx x y)) := by
  have hlv : lvlS ⟨#[43]⟩ = 5 := by kernel_rfl
  refine parse_reads ?_ hsz (by
    have e : oSyms (some (sumEx x y)) = oSyms (some x) ++ oSyms (some y) := by simp [oSyms, sumEx, Ex.syms]
    rw [e, List.any_append, hres, hres2]; rfl)
  have h : At (sumText x y) 0 (brk true x.text ++ ⟨#[32]⟩ ++ ⟨#[43]⟩ ++ ⟨#[32]⟩ ++ brk true y.text) := At.self _
  have hend : (sumText x y).size = (brk true x.text).size + 1 + 1 + 1 + (brk true y.text).size := by
    unfold sumText
    rw [ByteArray.size_append, ByteArray.size_append, ByteArray.size_append, ByteArray.size_append]; rfl
  generalize sumText x y = s at *
  have e1 : (brk true x.text ++ ⟨#[32]⟩ : ByteArray).size = (brk true x.text).size + 1 := by rw [ByteArray.size_append]; rfl
  have e2 : (brk true x.text ++ ⟨#[32]⟩ ++ ⟨#[43]⟩ : ByteArray).size = (brk true x.text).size + 1 + 1 := by rw [ByteArray.size_append, e1]; rfl
  have e3 : (brk true x.text ++ ⟨#[32]⟩ ++ ⟨#[43]⟩ ++ ⟨#[32]⟩ : ByteArray).size = (brk true x.text).size + 1 + 1 + 1 := by rw [ByteArray.size_append, e2]; rfl
  have hX := h.left.left.left.left
  have h1 := h.left.left.left.right
  have hO := h.left.left.right
  have h2 := h.left.right
  have hY := h.right
  rw [e1] at hO
  rw [e2] at h2
  rw [e3] at hY
  rw [Nat.zero_add] at h1 hO h2 hY
  obtain ⟨x1, x2⟩ := h1.one
  obtain ⟨y1, y2⟩ := h2.one
  obtain ⟨la, ha1, ha2⟩ := reads_par hg hw hX (by rw [Nat.zero_add]; exact .inr (by rw [x2]; decide))
  obtain ⟨lb, hb1, hb2⟩ := reads_par hg2 hw2 hY (by rw [← hend]; exact stop_end _)
  rw [Nat.zero_add] at ha1
  rw [← hend] at hb1
  have ht := lx_sign hO (by decide) (fun e => absurd e (by decide))
  have hl := ((ha1.trans (lx_blank x1 x2)).trans ht).trans ((lx_blank y1 y2).trans hb1)
  refine ⟨_, hl, ?_⟩
  have hgb := g_binT 1 ⟨4, ⟨#[43]⟩, 0, ((brk true x.text).size + 1 : Nat)⟩ la lb x y ⟨#[43]⟩ rfl (by rw [hlv]; decide) (by rw [hlv]; decide) (.one _ _ _ ha2) (.one _ _ _ hb2)
  simpa [sumEx] using hgb
/-- What is known of an expression of a short line. -/
theorem known_ex {s : ByteArray} {l : List Tok} {x : Ex} (h : knownP s = some l) (hx : (parseR l).2 = some x) : x.good ∧ x.words ∧ x.text.size ≤ 901 ∧ (oSyms (some x)).any resv = false ∧ x.nodes ≤ 1000000 := by
  unfold knownP at h
  split at h
  · cases h
  · rename_i h200
    cases ht : toksP s with
    | error c => rw [ht] at h; cases h
    | ok m =>
      rw [ht] at h
      cases h
      obtain ⟨hok, hm1, hm2⟩ := toksP_ok ht
      obtain ⟨hw, htl⟩ := toksP_facts ht
      obtain ⟨hp, hcode⟩ := parseR_ok hx
      obtain ⟨hg, hn, _⟩ := parseR_good hok.sub hx
      have hgr := (P.full exLang hp x).1 rfl
      have hres : (oSyms (some x)).any resv = false := by
        have he := parseR_of hp
        rw [← he] at hx
        unfold parsed at hx
        dsimp only at hx
        rw [if_pos rfl] at hx
        rcases hr : (oSyms (some x)).any resv with _ | _
        · rfl
        · have e : lSyms [some x] = oSyms (some x) := by simp [lSyms]
          rw [any_uniq, e, if_pos hr] at hx
          cases hx
      have hwords := words_gram hgr (fun t ht => hw t (List.dropLast_subset m ht)) (fun y hy => by
        have := List.any_eq_false.1 hres y.data.toList (by simp [oSyms]; exact ⟨y, hy, rfl⟩)
        simpa using this)
      have hwt := wt_gram hgr
      have htw := text_wt x hg
      have hd := tls_drop m
      exact ⟨hg, hwords, by omega, hres, by rw [List.length_dropLast] at hn; omega⟩
/-- A sum does not depend on its order. -/
theorem sum_eval (x y : Ex) (env : ByteArray → Option Int) (here : Int) : ((sumEx x y).eval env here).1 = ((sumEx y x).eval env here).1 ∧ (((sumEx x y).eval env here).2 = 0 ↔ ((sumEx y x).eval env here).2 = 0) := by
  have ho : ∀ a b : Int, opEval ⟨#[43]⟩ a b = rangedP (a + b) := fun a b => by
    have hi : opIdx ⟨#[43]⟩ = some 5 := by kernel_rfl
    unfold opEval
    rw [hi]
    rfl
  unfold sumEx
  simp only [Ex.eval]
  by_cases h1 : (x.eval env here).2 = 0
  · by_cases h2 : (y.eval env here).2 = 0
    · rw [if_pos h1, if_pos h2, if_pos h2, if_pos h1, ho, ho, Int.add_comm]
      exact ⟨rfl, Iff.rfl⟩
    · rw [if_pos h1, if_neg h2, if_neg h2]
      exact ⟨rfl, Iff.rfl⟩
  · by_cases h2 : (y.eval env here).2 = 0
    · rw [if_neg h1, if_pos h2, if_neg h1]
      exact ⟨rfl, Iff.rfl⟩
    · rw [if_neg h1, if_neg h2]
      exact ⟨rfl, ⟨fun h => absurd h h1, fun h => absurd h h2⟩⟩
end Go.Proofs.YtpkbonfbehhbdaaGreatDoor

/- The law's own functions small and values. -/
namespace Go.Proofs.YtpkbonfbehhbdaaGreatDoor
open Go.RowKit Go.Sort

open Go.ChangeMaps
/-- Whether numbers are in the range, and values are few. -/
def smallB (here : Int) (l : List (ByteArray × Int)) : Bool := (l.all fun x => decide (-2147483648 ≤ x.2) && decide (x.2 < 2147483648)) && (decide (-2147483648 ≤ here) && decide (here < 2147483648) && decide (l.length ≤ 50))
set_option maxHeartbeats 1000000 in
set_option maxRecDepth 100000 in
theorem small_any (here : Int) (l : List (ByteArray × Int)) (v : Value) (w : World) (hr : Row w v l.length (valc l)) (hl : l.length ≤ maxLen) :
    Calls Tryz.prog 16 #[.int .i64 here, v] w fun e w' => e = .returned (.bool (smallB here l)) ∧ Below w.heap.size w w' := by
  unfold maxLen at hl
  obtain ⟨a, cap, rfl, hcap, hc⟩ := hr.vals
  have hl0 : (0 : Int) ≤ (l.length : Int) := by omega
  have hl1 : (l.length : Int) ≤ 9223372036854775807 := by omega
  have hc1 : (l.length : Int) ≤ (cap : Int) := by omega
  have HC := Lib.hid hc; clear hc hr
  go_enter Tryz.func16, Tryz.ntmps16
  go_wp2_with fail
  go_loopw [9] (fun i wr => ∃ k : Nat, k ≤ l.length ∧ i = .int .i64 k ∧ Below w.heap.size w wr ∧ Hid ((l.take k).all (fun x => decide (-2147483648 ≤ x.2) && decide (x.2 < 2147483648)) = true)) (fun i _ => l.length - (intOf i).toNat)
  case atStart => exact ⟨0, Nat.zero_le _, rfl, Below.refl _ _, Lib.hid rfl⟩
  case round =>
    obtain ⟨k, hk, rfl, hbel, Hno⟩ := hrel
    have HBEL := Lib.hid hbel; clear hbel
    have hsz : w.heap.size ≤ wr.heap.size := HBEL.out.size
    by_cases hlt : k < l.length
    · obtain ⟨x, hx⟩ : ∃ x, l[k]? = some x := ⟨_, List.getElem?_eq_getElem hlt⟩
      obtain ⟨g, o, rfl, hg, hcs⟩ := HC.out (by rintro rfl; simp at hx)
      obtain ⟨e0, e1⟩ := hcs k x hx
      clear hcs
      have f0 := (HBEL.out.cell (p := ⟨g, o + k * 2, none⟩) hg).trans e0
      have f1 := (HBEL.out.cell (p := ⟨g, o + k * 2 + 1, none⟩) hg).trans e1
      have hi0 : (0 : Int) ≤ (k : Int) := by omega
      have hi1 : (k : Int) < (l.length : Int) := by omega
      have hgr : g < wr.heap.size := by omega
      obtain ⟨xn, xv⟩ := x
      simp only at f0 f1
      have hmem : (xn, xv) ∈ l := List.mem_of_getElem? hx
      have hstep : (l.take (k + 1)).all (fun x => decide (-2147483648 ≤ x.2) && decide (x.2 < 2147483648)) = (decide (-2147483648 ≤ xv) && decide (xv < 2147483648)) := by rw [List.take_add_one, hx]; simp [Hno.out]
      have HST := Lib.hid hstep; clear hstep hx e0 e1
      have HM := Lib.hid hmem; clear hmem
      by_cases h1 : xv < -2147483648
      · have hf : smallB here l = false := by
          unfold smallB
          rw [show l.all (fun x => decide (-2147483648 ≤ x.2) && decide (x.2 < 2147483648)) = false from List.all_eq_false.2 ⟨_, HM.out, by simp; omega⟩]
          rfl
        have HF := Lib.hid hf; clear hf
        go_wp2_with fail
        go_ret
        exact ⟨by rw [HF.out]; rfl, by ((repeat (first | exact Below.refl _ _ | refine Below.drew ?_ | (refine below_gw' ?_ (by first | omega | (simp [go_sem]; done) | (simp [go_sem]; omega)) _) | (refine Below.alloc ?_ (by first | omega | (simp [go_sem]; done) | (simp [go_sem]; omega)) _) | (refine Below.setCell ?_ (by first | omega | (simp [go_sem]; done) | (simp [go_sem]; omega)) _)))) <;> exact HBEL.out⟩
      · by_cases h2 : (2147483648 : Int) ≤ xv
        · have hf : smallB here l = false := by
            unfold smallB
            rw [show l.all (fun x => decide (-2147483648 ≤ x.2) && decide (x.2 < 2147483648)) = false from List.all_eq_false.2 ⟨_, HM.out, by simp; omega⟩]
            rfl
          have HF := Lib.hid hf; clear hf
          go_wp2_with fail
          go_ret
          exact ⟨by rw [HF.out]; rfl, by ((repeat (first | exact Below.refl _ _ | refine Below.drew ?_ | (refine below_gw' ?_ (by first | omega | (simp [go_sem]; done) | (simp [go_sem]; omega)) _) | (refine Below.alloc ?_ (by first | omega | (simp [go_sem]; done) | (simp [go_sem]; omega)) _) | (refine Below.setCell ?_ (by first | omega | (simp [go_sem]; done) | (simp [go_sem]; omega)) _)))) <;> exact HBEL.out⟩
        · have HT : Hid ((l.take (k + 1)).all (fun x => decide (-2147483648 ≤ x.2) && decide (x.2 < 2147483648)) = true) := Lib.hid (by rw [HST.out]; simp; omega)
          go_wp2_with fail
          go_roundw
          case rel => exact ⟨k + 1, by omega, by go_num, by ((repeat (first | exact Below.refl _ _ | refine Below.drew ?_ | (refine below_gw' ?_ (by first | omega | (simp [go_sem]; done) | (simp [go_sem]; omega)) _) | (refine Below.alloc ?_ (by first | omega | (simp [go_sem]; done) | (simp [go_sem]; omega)) _) | (refine Below.setCell ?_ (by first | omega | (simp [go_sem]; done) | (simp [go_sem]; omega)) _)))) <;> exact HBEL.out, HT⟩
          case measure => simp [intOf]; omega
    · obtain rfl : k = l.length := by omega
      have hall : l.all (fun x => decide (-2147483648 ≤ x.2) && decide (x.2 < 2147483648)) = true := by have := Hno.out; rwa [List.take_length] at this
      have hsm : smallB here l = (decide (-2147483648 ≤ here) && decide (here < 2147483648) && decide (l.length ≤ 50)) := by unfold smallB; rw [hall, Bool.true_and]
      have HSM := Lib.hid hsm; clear hall hsm Hno
      rcases h1 : decide (-2147483648 ≤ here) with _ | _
      · go_wp2_with fail
        go_ret
        exact ⟨by rw [HSM.out, h1]; rfl, HBEL.out⟩
      · rcases h2 : decide (here < 2147483648) with _ | _
        · go_wp2_with fail
          go_ret
          exact ⟨by rw [HSM.out, h1, h2]; rfl, HBEL.out⟩
        · go_wp2_with fail
          go_ret
          exact ⟨by rw [HSM.out, h1, h2]; first | rfl | (simp; done) | (simp; omega), HBEL.out⟩
end Go.Proofs.YtpkbonfbehhbdaaGreatDoor

/- The walk of the law ExprBrackets. -/
namespace Go.Proofs.YtpkbonfbehhbdaaGreatDoor
open Go.RowKit Go.Sort

/-- What a line is evaluated to, without values. -/
noncomputable def lineEval (s : ByteArray) (here : Int) : Int × Int := match (parseL s).2 with | none => (0, 1) | some x => x.eval (fun _ => none) here
set_option maxHeartbeats 1000000 in
theorem evalB_nil (here : Int) (m : Value) (w : World) : Calls Tryz.prog 17 #[.pointer none, .int .i64 here, m] w (EvRes (0, 1) w) := by
  go_enter Tryz.func17, Tryz.ntmps17
  go_wp2_with fail
  exact bodyPost_ret (v := .tuple #[.int .i64 0, .int .i64 1]) (by simp [results, Tryz.results17, go_sem]) rfl ⟨rfl, by (repeat (first | exact Below.refl _ _ | refine Below.drew ?_ | (refine below_gw' ?_ (by first | omega | (simp [go_sem]; done) | (simp [go_sem]; omega)) _) | (refine Below.alloc ?_ (by first | omega | (simp [go_sem]; done) | (simp [go_sem]; omega)) _) | (refine Below.setCell ?_ (by first | omega | (simp [go_sem]; done) | (simp [go_sem]; omega)) _)))⟩
theorem lineEval_any (s : ByteArray) (here : Int) (hh : -2147483648 ≤ here ∧ here ≤ 2147483647) (hg : ∀ x, (parseL s).2 = some x → x.good) (v : Value) (w : World) (hv : OptAt 80 w (parseL s).2 v) :
    Calls Tryz.prog 17 #[v, .int .i64 here, .map none] w fun e w' => e = .returned (.tuple #[.int .i64 (lineEval s here).1, .int .i64 (lineEval s here).2]) ∧ Below w.heap.size w w' := by
  unfold lineEval
  rcases hx : (parseL s).2 with _ | x
  · rw [hx] at hv
    obtain rfl : v = .pointer none := hv
    exact evalB_nil here _ w
  · rw [hx] at hv
    exact eval_any (fun _ => none) here (fun s n h => by cases h) hh (.map none) x (hg x hx) v w hv (.inl ⟨rfl, fun _ => rfl⟩)
theorem sum_lines (x y : Ex) (hg : x.good) (hw : x.words) (hg2 : y.good) (hw2 : y.words) (hres : (oSyms (some x)).any resv = false) (hres2 : (oSyms (some y)).any resv = false) (here : Int) :
    (∀ z, (parseL (sumText x y)).2 = some z → z.good) ∧ (lineEval (sumText x y) here).1 = (lineEval (sumText y x) here).1 ∧ ((lineEval (sumText x y) here).2 = 0 ↔ (lineEval (sumText y x) here).2 = 0) := by
  have hs : (sumText y x).size = (sumText x y).size := by
    unfold sumText
    rw [ByteArray.size_append, ByteArray.size_append, ByteArray.size_append, ByteArray.size_append, ByteArray.size_append, ByteArray.size_append, ByteArray.size_append, ByteArray.size_append]
    omega
  have hlv : lvlS ⟨#[43]⟩ ≠ 0 := by rw [show lvlS ⟨#[43]⟩ = 5 by kernel_rfl]; decide
  by_cases hsz : (sumText x y).size ≤ 1024
  · have h1 := parse_sum hg hw hg2 hw2 hsz hres hres2
    have h2 := parse_sum hg2 hw2 hg hw (by rw [hs]; exact hsz) hres2 hres
    unfold lineEval
    rw [h1, h2]
    refine ⟨fun z hz => ?_, sum_eval x y _ here⟩
    cases hz
    exact ⟨hlv, hg, hg2⟩
  · have hp : ∀ u : ByteArray, ¬ u.size ≤ 1024 → parseL u = (19, none) := fun u hu => by
      unfold parseL toksP
      rw [if_pos (by omega)]
    unfold lineEval
    rw [hp _ hsz, hp _ (by rw [hs]; exact hsz)]
    exact ⟨(fun z hz => by cases hz), rfl, Iff.rfl⟩
end Go.Proofs.YtpkbonfbehhbdaaGreatDoor

/- The walk of the law ExprBrackets. (Written by wip/gen_brackets.py.) -/
namespace Go.Proofs.YtpkbonfbehhbdaaGreatDoor
open Go.RowKit Go.Sort

theorem sum_str (x y : Ex) : (⟨#[40]⟩ ++ x.text ++ ⟨#[41, 32, 43, 32, 40]⟩ ++ y.text ++ ⟨#[41]⟩ : ByteArray) = sumText x y := by
  unfold sumText brk
  apply ByteArray.ext
  apply Array.ext'
  simp [ByteArray.data_append]
set_option maxHeartbeats 2000000 in
set_option maxRecDepth 100000 in
theorem bracketsNo (a b : ByteArray) (here : Int) (w : World) (ha : a.size ≤ maxLen) (hb : b.size ≤ maxLen) (hT : Tabs w) (h : knownP a = none ∨ knownP b = none ∨ smallB here [] = false) :
    Calls Tryz.prog 5 #[.string a, .string b, .int .i64 here] w fun e w' => e = .returned (.bool true) ∧ Below w.heap.size w w' := by
  have HT := Lib.hid hT; clear hT
  have hka := fun w => known_any a w ha
  have hkb := fun w => known_any b w hb
  unfold KnRes at hka hkb
  have hsm := fun w => small_any here [] (.slice none 0 0) w (Row.nil w) (by unfold maxLen; simp)
  obtain ⟨A, hA⟩ : ∃ A, (knownP a).isSome = A := ⟨_, rfl⟩
  obtain ⟨B, hB⟩ : ∃ B, (knownP b).isSome = B := ⟨_, rfl⟩
  obtain ⟨C, hC⟩ : ∃ C, smallB here [] = C := ⟨_, rfl⟩
  rw [hA] at hka
  rw [hB] at hkb
  rw [hC] at hsm h
  have hAB : A = false ∨ A = true ∧ B = false ∨ A = true ∧ B = true ∧ C = false := by
    rcases h with h | h | h
    · rw [h] at hA; exact .inl hA.symm
    · rw [h] at hB
      cases A
      · exact .inl rfl
      · exact .inr (.inl ⟨rfl, hB.symm⟩)
    · cases A
      · exact .inl rfl
      · cases B
        · exact .inr (.inl ⟨rfl, rfl⟩)
        · exact .inr (.inr ⟨rfl, rfl, h⟩)
  have HKA := Lib.hid hka; clear hka hA h ha hb
  have HKB := Lib.hid hkb; clear hkb hB
  have HSM := Lib.hid hsm; clear hsm hC
  rcases hAB with rfl | ⟨rfl, rfl⟩ | ⟨rfl, rfl, rfl⟩
  · go_enter Tryz.func5, Tryz.ntmps5
    go_wp2_with fail
    (with_reducible refine (HKA.out _).mono ?_)
    rintro e w1 ⟨v1, rfl, _, hb1⟩
    obtain ⟨p1, rfl⟩ := gw_of_below hb1
    clear hb1
    go_wp2_with fail
    (with_reducible refine (HKB.out _).mono ?_)
    rintro e w2 ⟨v2, rfl, _, hb2⟩
    obtain ⟨p2, rfl⟩ := gw_of_below hb2
    clear hb2
    go_wp2_with fail
    (with_reducible refine (alive17 _ (HT.out.below (by (repeat (first | exact Below.refl _ _ | refine Below.drew ?_ | (refine below_gw' ?_ (by first | omega | (simp [go_sem]; done) | (simp [go_sem]; omega)) _) | (refine Below.alloc ?_ (by first | omega | (simp [go_sem]; done) | (simp [go_sem]; omega)) _) | (refine Below.setCell ?_ (by first | omega | (simp [go_sem]; done) | (simp [go_sem]; omega)) _)))))).mono ?_)
    rintro e w4 ⟨rfl, hb4⟩
    obtain ⟨p4, rfl⟩ := gw_of_below hb4
    clear hb4
    go_wp2_with fail
    go_ret
    exact ⟨rfl, by (repeat (first | exact Below.refl _ _ | refine Below.drew ?_ | (refine below_gw' ?_ (by first | omega | (simp [go_sem]; done) | (simp [go_sem]; omega)) _) | (refine Below.alloc ?_ (by first | omega | (simp [go_sem]; done) | (simp [go_sem]; omega)) _) | (refine Below.setCell ?_ (by first | omega | (simp [go_sem]; done) | (simp [go_sem]; omega)) _)))⟩
  · go_enter Tryz.func5, Tryz.ntmps5
    go_wp2_with fail
    (with_reducible refine (HKA.out _).mono ?_)
    rintro e w1 ⟨v1, rfl, _, hb1⟩
    obtain ⟨p1, rfl⟩ := gw_of_below hb1
    clear hb1
    go_wp2_with fail
    (with_reducible refine (HKB.out _).mono ?_)
    rintro e w2 ⟨v2, rfl, _, hb2⟩
    obtain ⟨p2, rfl⟩ := gw_of_below hb2
    clear hb2
    go_wp2_with fail
    (with_reducible refine (alive17 _ (HT.out.below (by (repeat (first | exact Below.refl _ _ | refine Below.drew ?_ | (refine below_gw' ?_ (by first | omega | (simp [go_sem]; done) | (simp [go_sem]; omega)) _) | (refine Below.alloc ?_ (by first | omega | (simp [go_sem]; done) | (simp [go_sem]; omega)) _) | (refine Below.setCell ?_ (by first | omega | (simp [go_sem]; done) | (simp [go_sem]; omega)) _)))))).mono ?_)
    rintro e w4 ⟨rfl, hb4⟩
    obtain ⟨p4, rfl⟩ := gw_of_below hb4
    clear hb4
    go_wp2_with fail
    go_ret
    exact ⟨rfl, by (repeat (first | exact Below.refl _ _ | refine Below.drew ?_ | (refine below_gw' ?_ (by first | omega | (simp [go_sem]; done) | (simp [go_sem]; omega)) _) | (refine Below.alloc ?_ (by first | omega | (simp [go_sem]; done) | (simp [go_sem]; omega)) _) | (refine Below.setCell ?_ (by first | omega | (simp [go_sem]; done) | (simp [go_sem]; omega)) _)))⟩
  · go_enter Tryz.func5, Tryz.ntmps5
    go_wp2_with fail
    (with_reducible refine (HKA.out _).mono ?_)
    rintro e w1 ⟨v1, rfl, _, hb1⟩
    obtain ⟨p1, rfl⟩ := gw_of_below hb1
    clear hb1
    go_wp2_with fail
    (with_reducible refine (HKB.out _).mono ?_)
    rintro e w2 ⟨v2, rfl, _, hb2⟩
    obtain ⟨p2, rfl⟩ := gw_of_below hb2
    clear hb2
    go_wp2_with fail
    (with_reducible refine (HSM.out _).mono ?_)
    rintro e w3 ⟨rfl, hb3⟩
    obtain ⟨p3, rfl⟩ := gw_of_below hb3
    clear hb3
    go_wp2_with fail
    (with_reducible refine (alive17 _ (HT.out.below (by (repeat (first | exact Below.refl _ _ | refine Below.drew ?_ | (refine below_gw' ?_ (by first | omega | (simp [go_sem]; done) | (simp [go_sem]; omega)) _) | (refine Below.alloc ?_ (by first | omega | (simp [go_sem]; done) | (simp [go_sem]; omega)) _) | (refine Below.setCell ?_ (by first | omega | (simp [go_sem]; done) | (simp [go_sem]; omega)) _)))))).mono ?_)
    rintro e w4 ⟨rfl, hb4⟩
    obtain ⟨p4, rfl⟩ := gw_of_below hb4
    clear hb4
    go_wp2_with fail
    go_ret
    exact ⟨rfl, by (repeat (first | exact Below.refl _ _ | refine Below.drew ?_ | (refine below_gw' ?_ (by first | omega | (simp [go_sem]; done) | (simp [go_sem]; omega)) _) | (refine Below.alloc ?_ (by first | omega | (simp [go_sem]; done) | (simp [go_sem]; omega)) _) | (refine Below.setCell ?_ (by first | omega | (simp [go_sem]; done) | (simp [go_sem]; omega)) _)))⟩
set_option maxHeartbeats 2000000 in
set_option maxRecDepth 100000 in
theorem bracketsBad (a b : ByteArray) (here : Int) (l m : List Tok) (w : World) (ha : a.size ≤ maxLen) (hb : b.size ≤ maxLen) (hT : Tabs w) (hkl : knownP a = some l) (hkm : knownP b = some m) (hs : smallB here [] = true) (h : (parseR l).1 ≠ 0 ∨ (parseR m).1 ≠ 0) :
    Calls Tryz.prog 5 #[.string a, .string b, .int .i64 here] w fun e w' => e = .returned (.bool true) ∧ Below w.heap.size w w' := by
  have HT := Lib.hid hT; clear hT
  have hka := fun w => known_any a w ha
  have hkb := fun w => known_any b w hb
  unfold KnRes at hka hkb
  rw [hkl] at hka
  rw [hkm] at hkb
  simp only [Option.isSome_some, Option.getD_some] at hka hkb
  have hsm := fun w => small_any here [] (.slice none 0 0) w (Row.nil w) (by unfold maxLen; simp)
  rw [hs] at hsm
  obtain ⟨hok, hlen, _⟩ := knownP_ok hkl
  obtain ⟨mok, mlen, _⟩ := knownP_ok hkm
  have hrl := fun v w hr => rparse_any l v w hr hok (by omega)
  have hrm := fun v w hr => rparse_any m v w hr mok (by omega)
  unfold ParseRes at hrl hrm
  generalize (parseR l).1 = C at *
  generalize (parseR m).1 = D at *
  have hCD : (C != 0) = true ∨ (C != 0) = false ∧ (D != 0) = true := by
    by_cases h0 : C = 0
    · exact .inr ⟨by simp [h0], by simpa using h.resolve_left (fun h => h h0)⟩
    · exact .inl (by simpa using h0)
  have HKA := Lib.hid hka; clear hka hkl h ha hb hok hlen mok mlen
  have HKB := Lib.hid hkb; clear hkb hkm
  have HSM := Lib.hid hsm; clear hsm hs
  have HRL := Lib.hid hrl; clear hrl
  have HRM := Lib.hid hrm; clear hrm
  rcases hCD with h1 | ⟨h1, h2⟩
  all_goals
    go_enter Tryz.func5, Tryz.ntmps5
    go_wp2_with fail
    (with_reducible refine (HKA.out _).mono ?_)
    rintro e w1 ⟨v1, rfl, hr1, hb1⟩
    obtain ⟨p1, rfl⟩ := gw_of_below hb1
    clear hb1
    have HR1 := Lib.hid hr1; clear hr1
    go_wp2_with fail
    (with_reducible refine (HKB.out _).mono ?_)
    rintro e w2 ⟨v2, rfl, hr2, hb2⟩
    obtain ⟨p2, rfl⟩ := gw_of_below hb2
    clear hb2
    have HR2 := Lib.hid hr2; clear hr2
    go_wp2_with fail
    (with_reducible refine (HSM.out _).mono ?_)
    rintro e w3 ⟨rfl, hb3⟩
    obtain ⟨p3, rfl⟩ := gw_of_below hb3
    clear hb3
    go_wp2_with fail
    (with_reducible refine (HRL.out _ _ (HR1.out.below (by (repeat (first | exact Below.refl _ _ | refine Below.drew ?_ | (refine below_gw' ?_ (by first | omega | (simp [go_sem]; done) | (simp [go_sem]; omega)) _) | (refine Below.alloc ?_ (by first | omega | (simp [go_sem]; done) | (simp [go_sem]; omega)) _) | (refine Below.setCell ?_ (by first | omega | (simp [go_sem]; done) | (simp [go_sem]; omega)) _)))))).mono ?_)
    rintro e w4 ⟨v4, rfl, _, hb4⟩
    obtain ⟨p4, rfl⟩ := gw_of_below hb4
    clear hb4
    go_wp2_with fail
    (with_reducible refine (HRM.out _ _ (HR2.out.below (by (repeat (first | exact Below.refl _ _ | refine Below.drew ?_ | (refine below_gw' ?_ (by first | omega | (simp [go_sem]; done) | (simp [go_sem]; omega)) _) | (refine Below.alloc ?_ (by first | omega | (simp [go_sem]; done) | (simp [go_sem]; omega)) _) | (refine Below.setCell ?_ (by first | omega | (simp [go_sem]; done) | (simp [go_sem]; omega)) _)))))).mono ?_)
    rintro e w5 ⟨v5, rfl, _, hb5⟩
    obtain ⟨p5, rfl⟩ := gw_of_below hb5
    clear hb5
    go_wp2_with fail
    (with_reducible refine (alive17 _ (HT.out.below (by (repeat (first | exact Below.refl _ _ | refine Below.drew ?_ | (refine below_gw' ?_ (by first | omega | (simp [go_sem]; done) | (simp [go_sem]; omega)) _) | (refine Below.alloc ?_ (by first | omega | (simp [go_sem]; done) | (simp [go_sem]; omega)) _) | (refine Below.setCell ?_ (by first | omega | (simp [go_sem]; done) | (simp [go_sem]; omega)) _)))))).mono ?_)
    rintro e w6 ⟨rfl, hb6⟩
    obtain ⟨p6, rfl⟩ := gw_of_below hb6
    clear hb6
    go_wp2_with fail
    go_ret
    exact ⟨rfl, by (repeat (first | exact Below.refl _ _ | refine Below.drew ?_ | (refine below_gw' ?_ (by first | omega | (simp [go_sem]; done) | (simp [go_sem]; omega)) _) | (refine Below.alloc ?_ (by first | omega | (simp [go_sem]; done) | (simp [go_sem]; omega)) _) | (refine Below.setCell ?_ (by first | omega | (simp [go_sem]; done) | (simp [go_sem]; omega)) _)))⟩
set_option maxHeartbeats 4000000 in
set_option maxRecDepth 100000 in
theorem bracketsYes (a b : ByteArray) (here : Int) (l m : List Tok) (x y : Ex) (w : World) (ha : a.size ≤ maxLen) (hb : b.size ≤ maxLen) (hT : Tabs w) (hkl : knownP a = some l) (hkm : knownP b = some m) (hs : smallB here [] = true) (hx : (parseR l).2 = some x) (hy : (parseR m).2 = some y) :
    Calls Tryz.prog 5 #[.string a, .string b, .int .i64 here] w fun e w' => e = .returned (.bool true) ∧ Below w.heap.size w w' := by
  have HT := Lib.hid hT; clear hT
  have hka := fun w => known_any a w ha
  have hkb := fun w => known_any b w hb
  unfold KnRes at hka hkb
  rw [hkl] at hka
  rw [hkm] at hkb
  simp only [Option.isSome_some, Option.getD_some] at hka hkb
  have hsm := fun w => small_any here [] (.slice none 0 0) w (Row.nil w) (by unfold maxLen; simp)
  rw [hs] at hsm
  have hh : -2147483648 ≤ here ∧ here ≤ 2147483647 := by
    simp [smallB] at hs
    omega
  obtain ⟨hok, hlen, _⟩ := knownP_ok hkl
  obtain ⟨mok, mlen, _⟩ := knownP_ok hkm
  have hrl := fun v w hr => rparse_any l v w hr hok (by omega)
  have hrm := fun v w hr => rparse_any m v w hr mok (by omega)
  unfold ParseRes at hrl hrm
  rw [(parseR_ok hx).2, hx] at hrl
  rw [(parseR_ok hy).2, hy] at hrm
  obtain ⟨hg, hw, hsz, hres, hnd⟩ := known_ex hkl hx
  obtain ⟨hg2, hw2, hsz2, hres2, hnd2⟩ := known_ex hkm hy
  have htx : ∀ v w, OptAt 78 w (some x) v → Calls Tryz.prog 21 #[v] w fun e w' => e = .returned (.string x.text) ∧ Below w.heap.size w w' := fun v w h1 => rtext17_any x hg hnd v w h1
  have hty : ∀ v w, OptAt 78 w (some y) v → Calls Tryz.prog 21 #[v] w fun e w' => e = .returned (.string y.text) ∧ Below w.heap.size w w' := fun v w h1 => rtext17_any y hg2 hnd2 v w h1
  have hp1 : ∀ w, Calls Tryz.prog 20 #[.string (⟨#[40]⟩ ++ x.text ++ ⟨#[41]⟩)] w fun e w' => ∃ g, e = .returned (.tuple #[.pointer (some ⟨g, 0, none⟩), .int .i64 0]) ∧ NodeAt 80 0 w' x (.pointer (some ⟨g, 0, none⟩)) ∧ Below w.heap.size w w' := fun w => lparse_ok _ x (parse_par hg hw (by have h2 : (brk true x.text).size = x.text.size + 2 := brk_wt true x 2 rfl; omega) hres) w
  obtain ⟨hz1, hn1, hc1⟩ := sum_lines x y hg hw hg2 hw2 hres hres2 here
  obtain ⟨hz2, _, _⟩ := sum_lines y x hg2 hw2 hg hw hres2 hres here
  have hp2 : ∀ w, Calls Tryz.prog 20 #[.string (⟨#[40]⟩ ++ x.text ++ ⟨#[41, 32, 43, 32, 40]⟩ ++ y.text ++ ⟨#[41]⟩)] w fun e w' => ∃ vt, e = .returned (.tuple #[vt, .int .i64 (parseL (sumText x y)).1]) ∧ OptAt 80 w' (parseL (sumText x y)).2 vt ∧ Below w.heap.size w w' := fun w => by rw [sum_str]; exact lparse_any _ w
  have hp3 : ∀ w, Calls Tryz.prog 20 #[.string (⟨#[40]⟩ ++ y.text ++ ⟨#[41, 32, 43, 32, 40]⟩ ++ x.text ++ ⟨#[41]⟩)] w fun e w' => ∃ vt, e = .returned (.tuple #[vt, .int .i64 (parseL (sumText y x)).1]) ∧ OptAt 80 w' (parseL (sumText y x)).2 vt ∧ Below w.heap.size w w' := fun w => by rw [sum_str]; exact lparse_any _ w
  have he2 := fun v w hv => lineEval_any (sumText x y) here hh hz1 v w hv
  have he3 := fun v w hv => lineEval_any (sumText y x) here hh hz2 v w hv
  have hbk := fun v w h => back_any x.nodes (some x) (Nat.le_refl _) v w h
  unfold BackRes at hbk
  have hsr := fun va vb w ha hb => rsame_any x.nodes (some x) (some x) (Nat.le_refl _) va vb w ha hb
  rw [sameO_true rfl] at hsr
  rw [← hn1] at he3
  have hptr : ∀ (X : Option Ex) (w : World) (v : Value), OptAt 80 w X v → ∃ p, v = .pointer p := fun X w v h => by
    cases X with
    | none => exact ⟨none, h⟩
    | some x => obtain ⟨g, h, _⟩ := NodeAt.ptr h; exact ⟨_, h⟩
  generalize (lineEval (sumText x y) here).1 = n1 at *
  generalize (lineEval (sumText x y) here).2 = c1 at *
  generalize (lineEval (sumText y x) here).2 = c2 at *
  generalize (parseL (sumText x y)).2 = X2 at *
  generalize (parseL (sumText x y)).1 = k2 at *
  generalize (parseL (sumText y x)).2 = X3 at *
  generalize (parseL (sumText y x)).1 = k3 at *
  have hcc : (c1 == 0) = true ∧ (c2 == 0) = true ∨ (c1 == 0) = false ∧ (c2 == 0) = false := by
    by_cases h0 : c1 = 0
    · exact .inl ⟨by simpa using h0, by simpa using hc1.1 h0⟩
    · exact .inr ⟨by simpa using h0, by simpa using fun h => h0 (hc1.2 h)⟩
  have hnn : (n1 == n1) = true := by simp
  clear hc1 hn1 hz1 hz2 hg hw hg2 hw2 hres hres2 hnd hnd2 hh
  generalize x.text = S at *
  generalize y.text = U at *
  have HKA := Lib.hid hka; clear hka hkl ha hb hok hlen mok mlen hx hy
  have HKB := Lib.hid hkb; clear hkb hkm
  have HSM := Lib.hid hsm; clear hsm hs
  have HRL := Lib.hid hrl; clear hrl
  have HRM := Lib.hid hrm; clear hrm
  have HTX := Lib.hid htx; clear htx
  have HTY := Lib.hid hty; clear hty
  have HP1 := Lib.hid hp1; clear hp1
  have HP2 := Lib.hid hp2; clear hp2
  have HP3 := Lib.hid hp3; clear hp3
  have HE2 := Lib.hid he2; clear he2
  have HE3 := Lib.hid he3; clear he3
  have HBK := Lib.hid hbk; clear hbk
  have HSR := Lib.hid hsr; clear hsr
  have HPTR := Lib.hid hptr; clear hptr
  rcases hcc with ⟨hc1, hc2⟩ | ⟨hc1, hc2⟩
  all_goals
    go_enter Tryz.func5, Tryz.ntmps5
    go_wp2_with fail
    (with_reducible refine (HKA.out _).mono ?_)
    rintro e w1 ⟨v1, rfl, hr1, hb1⟩
    obtain ⟨p1, rfl⟩ := gw_of_below hb1
    clear hb1
    have HR1 := Lib.hid hr1; clear hr1
    go_wp2_with fail
    (with_reducible refine (HKB.out _).mono ?_)
    rintro e w2 ⟨v2, rfl, hr2, hb2⟩
    obtain ⟨p2, rfl⟩ := gw_of_below hb2
    clear hb2
    have HR2 := Lib.hid hr2; clear hr2
    go_wp2_with fail
    (with_reducible refine (HSM.out _).mono ?_)
    rintro e w3 ⟨rfl, hb3⟩
    obtain ⟨p3, rfl⟩ := gw_of_below hb3
    clear hb3
    go_wp2_with fail
    (with_reducible refine (HRL.out _ _ (HR1.out.below (by (repeat (first | exact Below.refl _ _ | refine Below.drew ?_ | (refine below_gw' ?_ (by first | omega | (simp [go_sem]; done) | (simp [go_sem]; omega)) _) | (refine Below.alloc ?_ (by first | omega | (simp [go_sem]; done) | (simp [go_sem]; omega)) _) | (refine Below.setCell ?_ (by first | omega | (simp [go_sem]; done) | (simp [go_sem]; omega)) _)))))).mono ?_)
    rintro e w4 ⟨v4, rfl, ho4, hb4⟩
    obtain ⟨p4, rfl⟩ := gw_of_below hb4
    clear hb4
    obtain ⟨q4, rfl⟩ := ho4.ptr0
    have HO4 := Lib.hid ho4; clear ho4
    go_wp2_with fail
    (with_reducible refine (HRM.out _ _ (HR2.out.below (by (repeat (first | exact Below.refl _ _ | refine Below.drew ?_ | (refine below_gw' ?_ (by first | omega | (simp [go_sem]; done) | (simp [go_sem]; omega)) _) | (refine Below.alloc ?_ (by first | omega | (simp [go_sem]; done) | (simp [go_sem]; omega)) _) | (refine Below.setCell ?_ (by first | omega | (simp [go_sem]; done) | (simp [go_sem]; omega)) _)))))).mono ?_)
    rintro e w5 ⟨v5, rfl, ho5, hb5⟩
    obtain ⟨p5, rfl⟩ := gw_of_below hb5
    clear hb5
    obtain ⟨q5, rfl⟩ := ho5.ptr0
    have HO5 := Lib.hid ho5; clear ho5
    go_wp2_with fail
    (with_reducible refine (HTX.out _ _ (HO4.out.below (by (repeat (first | exact Below.refl _ _ | refine Below.drew ?_ | (refine below_gw' ?_ (by first | omega | (simp [go_sem]; done) | (simp [go_sem]; omega)) _) | (refine Below.alloc ?_ (by first | omega | (simp [go_sem]; done) | (simp [go_sem]; omega)) _) | (refine Below.setCell ?_ (by first | omega | (simp [go_sem]; done) | (simp [go_sem]; omega)) _)))))).mono ?_)
    rintro e w6 ⟨rfl, hb6⟩
    obtain ⟨p6, rfl⟩ := gw_of_below hb6
    clear hb6
    go_wp2_with fail
    (with_reducible refine (HP1.out _).mono ?_)
    rintro e w7 ⟨g7, rfl, hn7, hb7⟩
    obtain ⟨p7, rfl⟩ := gw_of_below hb7
    clear hb7
    have HN7 : Hid (OptAt 80 _ (some x) (.pointer (some ⟨g7, 0, none⟩))) := Lib.hid hn7; clear hn7
    go_wp2_with fail
    (with_reducible refine (HTX.out _ _ (HO4.out.below (by (repeat (first | exact Below.refl _ _ | refine Below.drew ?_ | (refine below_gw' ?_ (by first | omega | (simp [go_sem]; done) | (simp [go_sem]; omega)) _) | (refine Below.alloc ?_ (by first | omega | (simp [go_sem]; done) | (simp [go_sem]; omega)) _) | (refine Below.setCell ?_ (by first | omega | (simp [go_sem]; done) | (simp [go_sem]; omega)) _)))))).mono ?_)
    rintro e w8 ⟨rfl, hb8⟩
    obtain ⟨p8, rfl⟩ := gw_of_below hb8
    clear hb8
    go_wp2_with fail
    (with_reducible refine (HTY.out _ _ (HO5.out.below (by (repeat (first | exact Below.refl _ _ | refine Below.drew ?_ | (refine below_gw' ?_ (by first | omega | (simp [go_sem]; done) | (simp [go_sem]; omega)) _) | (refine Below.alloc ?_ (by first | omega | (simp [go_sem]; done) | (simp [go_sem]; omega)) _) | (refine Below.setCell ?_ (by first | omega | (simp [go_sem]; done) | (simp [go_sem]; omega)) _)))))).mono ?_)
    rintro e w9 ⟨rfl, hb9⟩
    obtain ⟨p9, rfl⟩ := gw_of_below hb9
    clear hb9
    go_wp2_with fail
    (with_reducible refine (HP2.out _).mono ?_)
    rintro e w10 ⟨v10, rfl, ho10, hb10⟩
    obtain ⟨p10, rfl⟩ := gw_of_below hb10
    clear hb10
    obtain ⟨q10, rfl⟩ := HPTR.out _ _ _ ho10
    have HO10 := Lib.hid ho10; clear ho10
    go_wp2_with fail
    (with_reducible refine (HTY.out _ _ (HO5.out.below (by (repeat (first | exact Below.refl _ _ | refine Below.drew ?_ | (refine below_gw' ?_ (by first | omega | (simp [go_sem]; done) | (simp [go_sem]; omega)) _) | (refine Below.alloc ?_ (by first | omega | (simp [go_sem]; done) | (simp [go_sem]; omega)) _) | (refine Below.setCell ?_ (by first | omega | (simp [go_sem]; done) | (simp [go_sem]; omega)) _)))))).mono ?_)
    rintro e w11 ⟨rfl, hb11⟩
    obtain ⟨p11, rfl⟩ := gw_of_below hb11
    clear hb11
    go_wp2_with fail
    (with_reducible refine (HTX.out _ _ (HO4.out.below (by (repeat (first | exact Below.refl _ _ | refine Below.drew ?_ | (refine below_gw' ?_ (by first | omega | (simp [go_sem]; done) | (simp [go_sem]; omega)) _) | (refine Below.alloc ?_ (by first | omega | (simp [go_sem]; done) | (simp [go_sem]; omega)) _) | (refine Below.setCell ?_ (by first | omega | (simp [go_sem]; done) | (simp [go_sem]; omega)) _)))))).mono ?_)
    rintro e w12 ⟨rfl, hb12⟩
    obtain ⟨p12, rfl⟩ := gw_of_below hb12
    clear hb12
    go_wp2_with fail
    (with_reducible refine (HP3.out _).mono ?_)
    rintro e w13 ⟨v13, rfl, ho13, hb13⟩
    obtain ⟨p13, rfl⟩ := gw_of_below hb13
    clear hb13
    obtain ⟨q13, rfl⟩ := HPTR.out _ _ _ ho13
    have HO13 := Lib.hid ho13; clear ho13
    go_wp2_with fail
    (with_reducible refine (HE2.out _ _ (HO10.out.below (by (repeat (first | exact Below.refl _ _ | refine Below.drew ?_ | (refine below_gw' ?_ (by first | omega | (simp [go_sem]; done) | (simp [go_sem]; omega)) _) | (refine Below.alloc ?_ (by first | omega | (simp [go_sem]; done) | (simp [go_sem]; omega)) _) | (refine Below.setCell ?_ (by first | omega | (simp [go_sem]; done) | (simp [go_sem]; omega)) _)))))).mono ?_)
    rintro e w14 ⟨rfl, hb14⟩
    obtain ⟨p14, rfl⟩ := gw_of_below hb14
    clear hb14
    go_wp2_with fail
    (with_reducible refine (HE3.out _ _ (HO13.out.below (by (repeat (first | exact Below.refl _ _ | refine Below.drew ?_ | (refine below_gw' ?_ (by first | omega | (simp [go_sem]; done) | (simp [go_sem]; omega)) _) | (refine Below.alloc ?_ (by first | omega | (simp [go_sem]; done) | (simp [go_sem]; omega)) _) | (refine Below.setCell ?_ (by first | omega | (simp [go_sem]; done) | (simp [go_sem]; omega)) _)))))).mono ?_)
    rintro e w15 ⟨rfl, hb15⟩
    obtain ⟨p15, rfl⟩ := gw_of_below hb15
    clear hb15
    go_wp2_with fail
    (with_reducible refine (alive17 _ (HT.out.below (by (repeat (first | exact Below.refl _ _ | refine Below.drew ?_ | (refine below_gw' ?_ (by first | omega | (simp [go_sem]; done) | (simp [go_sem]; omega)) _) | (refine Below.alloc ?_ (by first | omega | (simp [go_sem]; done) | (simp [go_sem]; omega)) _) | (refine Below.setCell ?_ (by first | omega | (simp [go_sem]; done) | (simp [go_sem]; omega)) _)))))).mono ?_)
    rintro e w16 ⟨rfl, hb16⟩
    obtain ⟨p16, rfl⟩ := gw_of_below hb16
    clear hb16
    go_wp2_with fail
    (with_reducible refine (HBK.out _ _ (HN7.out.below (by (repeat (first | exact Below.refl _ _ | refine Below.drew ?_ | (refine below_gw' ?_ (by first | omega | (simp [go_sem]; done) | (simp [go_sem]; omega)) _) | (refine Below.alloc ?_ (by first | omega | (simp [go_sem]; done) | (simp [go_sem]; omega)) _) | (refine Below.setCell ?_ (by first | omega | (simp [go_sem]; done) | (simp [go_sem]; omega)) _)))))).mono ?_)
    rintro e w17 ⟨v17, rfl, ho17, hb17⟩
    obtain ⟨p17, rfl⟩ := gw_of_below hb17
    clear hb17
    obtain ⟨q17, rfl⟩ := ho17.ptr0
    have HO17 := Lib.hid ho17; clear ho17
    go_wp2_with fail
    (with_reducible refine (HSR.out _ _ _ HO17.out (HO4.out.below (by (repeat (first | exact Below.refl _ _ | refine Below.drew ?_ | (refine below_gw' ?_ (by first | omega | (simp [go_sem]; done) | (simp [go_sem]; omega)) _) | (refine Below.alloc ?_ (by first | omega | (simp [go_sem]; done) | (simp [go_sem]; omega)) _) | (refine Below.setCell ?_ (by first | omega | (simp [go_sem]; done) | (simp [go_sem]; omega)) _)))))).mono ?_)
    rintro e w18 ⟨rfl, hb18⟩
    obtain ⟨p18, rfl⟩ := gw_of_below hb18
    clear hb18
    go_wp2_with fail
    go_ret
    exact ⟨rfl, by (repeat (first | exact Below.refl _ _ | refine Below.drew ?_ | (refine below_gw' ?_ (by first | omega | (simp [go_sem]; done) | (simp [go_sem]; omega)) _) | (refine Below.alloc ?_ (by first | omega | (simp [go_sem]; done) | (simp [go_sem]; omega)) _) | (refine Below.setCell ?_ (by first | omega | (simp [go_sem]; done) | (simp [go_sem]; omega)) _)))⟩
theorem lawEBrackets_walk (a b : ByteArray) (here : Int) (w : World) (ha : a.size ≤ maxLen) (hb : b.size ≤ maxLen) (hT : Tabs w) :
    Calls Tryz.prog 5 #[.string a, .string b, .int .i64 here] w fun e w' => e = .returned (.bool true) ∧ Below w.heap.size w w' := by
  rcases h1 : knownP a with _ | l
  · exact bracketsNo a b here w ha hb hT (.inl h1)
  · rcases h2 : knownP b with _ | m
    · exact bracketsNo a b here w ha hb hT (.inr (.inl h2))
    · rcases h3 : smallB here [] with _ | _
      · exact bracketsNo a b here w ha hb hT (.inr (.inr h3))
      · rcases hx : (parseR l).2 with _ | x
        · exact bracketsBad a b here l m w ha hb hT h1 h2 h3 (.inl (by rcases parseR_code hx with h | h <;> rw [h] <;> decide))
        · rcases hy : (parseR m).2 with _ | y
          · exact bracketsBad a b here l m w ha hb hT h1 h2 h3 (.inr (by rcases parseR_code hy with h | h <;> rw [h] <;> decide))
          · exact bracketsYes a b here l m x y w ha hb hT h1 h2 h3 hx hy
end Go.Proofs.YtpkbonfbehhbdaaGreatDoor

/- The statement ExprBrackets of chapter 17: proved for every input; no condition beyond the statement's own. -/
namespace Go.Proofs.YtpkbonfbehhbdaaGreatDoor.lawExprBrackets
open Go.ChangeShapes Go.WideShapes Go.ChangeAt Go.RowKit Go.Joins
open Go.ChangeMaps (open_string shut_string)

theorem own : ownKnob Tryz.prog.godebug = none := by kernel_rfl
theorem laidOut : laidOutB Tryz.prog = true := by kernel_rfl

/-- A table of the row's list reads as it is listed, wherever it stands on the list. -/
theorem tab_of_list {P : Program} {W : World} {name : String} {k : IntKind} {zs : List Int} {g : Nat} {t e : TypeId} {n : Nat}
    (hg : P.globalNamed name = some g) (hty : (P.globals[g]?).map (·.type) = some t) (ht : P.underlying t = some (.array n e)) (he : P.underlying e = some (.int k)) (hce : P.cellsOf e = 1) (hct : P.cellsOf t = n) :
    ∀ (l : List (String × DataW Unit)) (ps : List MemPlace), DataW.LaidVars P W l ps → (name, Lib.tabData k zs) ∈ l → Lib.TabIs P W name k zs
  | [], _, _, hm => by cases hm
  | x :: l, ps, h, hm => by
    obtain ⟨nm, d⟩ := x
    obtain ⟨g', t', cs, fuel, p, q, hg', ht', hvar, hd, hrest, _⟩ := h
    rcases List.mem_cons.1 hm with hm | hm
    · cases hm
      obtain rfl := Option.some.inj (hg.symm.trans hg')
      obtain rfl := Option.some.inj (hty.symm.trans ht')
      unfold Lib.TabIs
      rw [hvar, ← Lib.cells_of_tab ht he hce hct hd]
    · exact tab_of_list hg hty ht he hce hct l q hrest hm

theorem table {W : World} (h : laidMetH Tryz.prog Rows.exprBracketsRow.laid W) : Tabs W := by
  obtain ⟨ps, hv, _⟩ := h
  have ht : Lib.TabIs Tryz.prog W "math/bits.deBruijn64tab" .u8 [0, 1, 56, 2, 57, 49, 28, 3, 61, 58, 42, 50, 38, 29, 17, 4, 62, 47, 59, 36, 45, 43, 51, 22, 53, 39, 33, 30, 24, 18, 12, 5, 63, 55, 48, 27, 60, 41, 37, 16, 46, 35, 44, 21, 52, 32, 23, 11, 54, 26, 40, 15, 34, 20, 31, 10, 25, 14, 19, 9, 13, 8, 7, 6] :=
    tab_of_list (g := 3) (t := 199) (e := 5) (n := 64) (by kernel_rfl) (by kernel_rfl) Tryz.underlying199 Tryz.underlying5 (by kernel_rfl) (by kernel_rfl) _ ps hv (.tail _ (.head _))
  exact ht.cell (by kernel_rfl) 15 (by decide)

set_option maxRecDepth 100000 in
/-- What the walk gives, for every argument and every world that holds the tables. -/
theorem contract (H : Type) (enc : TypeId × Value → H) (W : World) (base : Nat) (args : Array Value) (ds gs : List (DataW H)) (before : List MemPlace)
    (hval : ∀ (j : Nat) t v, Tryz.f5.params[j]? = some t → args[j]? = some v → Value.okWide Tryz.prog W .any base t v)
    (hW : DataW.Whole enc Tryz.prog Tryz.f5.params.toList Rows.exprBracketsSpec.vars false W args.toList ds gs before) (hL : laidMetH Tryz.prog Rows.exprBracketsRow.laid W) :
    Calls Tryz.prog 5 args W fun e W' => ∃ v, e = .returned v ∧ Rows.exprBracketsSpec.post enc Tryz.prog Tryz.f5 false true false false W args v W' := by
  have hW' := hW
  obtain ⟨p, q, hA0, hV, rfl, hfz, hnd⟩ := hW
  have hA : DataW.TrodAll enc Tryz.prog W 0 (fun _ => true) true Tryz.f5.params.toList args.toList ds p := hA0
  rw [Tryz.params5] at hA hval
  obtain ⟨v0, vs0, d0, ds0, p0, q0, hargs, rfl, rfl, h0, r0⟩ := trodAll_cons hA
  obtain ⟨v1, vs1, d1, ds1, p1, q1, rfl, rfl, rfl, h1, r1⟩ := trodAll_cons r0
  obtain ⟨v2, vs2, d2, ds2, p2, q2, rfl, rfl, rfl, h2, r2⟩ := trodAll_cons r1
  obtain ⟨rfl, rfl, rfl⟩ := trodAll_nil r2
  obtain rfl : args = #[v0, v1, v2] := by cases args; simp_all
  obtain ⟨rfl, rfl⟩ := trodVars_none hV
  have k0 := h0
  have lt0 : ∀ x ∈ p0, x.block < W.heap.size := by obtain ⟨m, hm⟩ := k0; exact DataW.trod_lt m _ _ _ hm
  have k1 := h1
  have lt1 : ∀ x ∈ p1, x.block < W.heap.size := by obtain ⟨m, hm⟩ := k1; exact DataW.trod_lt m _ _ _ hm
  have k2 := h2
  have lt2 : ∀ x ∈ p2, x.block < W.heap.size := by obtain ⟨m, hm⟩ := k2; exact DataW.trod_lt m _ _ _ hm
  obtain ⟨s0, rfl, hd0, rfl, w0⟩ := open_string Tryz.underlying9 (hval 0 9 v0 rfl rfl) h0
  obtain ⟨s1, rfl, hd1, rfl, w1⟩ := open_string Tryz.underlying9 (hval 1 9 v1 rfl rfl) h1
  obtain ⟨a2, rfl, hd2, rfl, w2⟩ := open_int Tryz.underlying3 (hval 2 3 v2 rfl rfl) h2
  refine (lawEBrackets_walk s0 s1 a2 W w0 w1 (table hL)).mono fun e W' ⟨he, bel⟩ => ?_
  subst he
  exact ⟨_, rfl, _, _, _, [], _, [], hW', trodAll_mk1 (shut_bool Tryz.underlying4 _), (trodAll_cons_mk (Below.trod laidOut (by kernel_rfl) (of_decide_eq_true (by kernel_rfl)) k0 bel lt0) (trodAll_cons_mk (Below.trod laidOut (by kernel_rfl) (of_decide_eq_true (by kernel_rfl)) k1 bel lt1) (trodAll_cons_mk (Below.trod laidOut (by kernel_rfl) (of_decide_eq_true (by kernel_rfl)) k2 bel lt2) trodAll_mk0))), rfl, bel.frame _, fun h => by cases h⟩

/-- A world for the witness: the settled one, the tables holding what their initialisers lay. -/
noncomputable def laidWorld (os : Os) : World :=
  { World.holding Tryz.prog os ⟨#[], #[], []⟩ with heap := ((((World.holding Tryz.prog os ⟨#[], #[], []⟩).heap.modify 2 fun
      | .cells _ t frozen => .cells #[.int .u8 0, .int .u8 1, .int .u8 28, .int .u8 2, .int .u8 29, .int .u8 14, .int .u8 24, .int .u8 3, .int .u8 30, .int .u8 22, .int .u8 20, .int .u8 15, .int .u8 25, .int .u8 17, .int .u8 4, .int .u8 8, .int .u8 31, .int .u8 27, .int .u8 13, .int .u8 23, .int .u8 21, .int .u8 19, .int .u8 16, .int .u8 7, .int .u8 26, .int .u8 12, .int .u8 18, .int .u8 6, .int .u8 11, .int .u8 5, .int .u8 10, .int .u8 9] t frozen
      | o => o).modify 3 fun
      | .cells _ t frozen => .cells #[.int .u8 0, .int .u8 1, .int .u8 56, .int .u8 2, .int .u8 57, .int .u8 49, .int .u8 28, .int .u8 3, .int .u8 61, .int .u8 58, .int .u8 42, .int .u8 50, .int .u8 38, .int .u8 29, .int .u8 17, .int .u8 4, .int .u8 62, .int .u8 47, .int .u8 59, .int .u8 36, .int .u8 45, .int .u8 43, .int .u8 51, .int .u8 22, .int .u8 53, .int .u8 39, .int .u8 33, .int .u8 30, .int .u8 24, .int .u8 18, .int .u8 12, .int .u8 5, .int .u8 63, .int .u8 55, .int .u8 48, .int .u8 27, .int .u8 60, .int .u8 41, .int .u8 37, .int .u8 16, .int .u8 46, .int .u8 35, .int .u8 44, .int .u8 21, .int .u8 52, .int .u8 32, .int .u8 23, .int .u8 11, .int .u8 54, .int .u8 26, .int .u8 40, .int .u8 15, .int .u8 34, .int .u8 20, .int .u8 31, .int .u8 10, .int .u8 25, .int .u8 14, .int .u8 19, .int .u8 9, .int .u8 13, .int .u8 8, .int .u8 7, .int .u8 6] t frozen
      | o => o).modify 0 fun
      | .cells _ t frozen => .cells #[.int .u64 1, .int .u64 10, .int .u64 100, .int .u64 1000, .int .u64 10000, .int .u64 100000, .int .u64 1000000, .int .u64 10000000, .int .u64 100000000, .int .u64 1000000000, .int .u64 10000000000, .int .u64 100000000000, .int .u64 1000000000000, .int .u64 10000000000000, .int .u64 100000000000000, .int .u64 1000000000000000, .int .u64 10000000000000000, .int .u64 100000000000000000, .int .u64 1000000000000000000, .int .u64 10000000000000000000] t frozen
      | o => o) }
theorem laid_met (os : Os) : laidMet Tryz.prog Rows.exprBracketsRow.laid ((laidWorld os).forCall (fun _ _ => 0) ⟨#[], #[Value.string ⟨#[]⟩, .string ⟨#[]⟩, .int .i64 0], []⟩).memory :=
  laidMet_of_run' 8 (by kernel_rfl) (by kernel_rfl)
theorem reads (os : Os) {H : Type} (enc : TypeId × Value → H) : ∃ places, DataW.whole enc Tryz.prog ((laidWorld os).forCall (fun _ _ => 0) ⟨#[], #[Value.string ⟨#[]⟩, .string ⟨#[]⟩, .int .i64 0], []⟩).memory Tryz.f5.params.toList Rows.exprBracketsSpec.vars false (#[Value.string ⟨#[]⟩, .string ⟨#[]⟩, .int .i64 0] : Array Value).toList 8 = some ([.lit (.string []), .lit (.string []), .lit (.int .i64 0)], [], places) :=
  ⟨[], by kernel_rfl⟩

set_option maxRecDepth 100000 in
theorem lifted (os : Os) (started : os.Started) (H : Type) (enc : TypeId × Value → H) (F : Stop.Interp) :
    ReturnsInHanded {} Tryz.checked os 5 .any ((OpenSpec.ofChange Rows.exprBracketsSpec).preRow enc Tryz.prog Tryz.f5 Rows.exprBracketsRow.domain false Rows.exprBracketsRow.laid) (((OpenSpec.ofChange Rows.exprBracketsSpec).at F).post enc Tryz.prog Tryz.f5 false true false false) := by
  obtain ⟨places, hx⟩ := reads os enc
  refine returnsInHanded_of_row (C := Tryz.checked) (s := OpenSpec.ofChange Rows.exprBracketsSpec) own started (by kernel_rfl) Tryz.func5
    (witness_row_at (enc := enc) (C := Tryz.checked) false (laidWorld os) #[Value.string ⟨#[]⟩, .string ⟨#[]⟩, .int .i64 0] rfl (by kernel_rfl) (by kernel_rfl) (by kernel_rfl)
      (OpenSpec.preRow_of_cond 8 hx (by kernel_rfl) (fun k hk => by cases hk) (by kernel_rfl) (laid_met os))) ?_
  intro W base args ds gs before hval hW _ _ _ hL _ _
  exact contract H enc W base args ds gs before hval hW hL

theorem said : Rows.ExprBracketsSaid :=
  OpenClaim.holds_of_cond 5 Tryz.f5 rfl rfl rfl rfl rfl rfl rfl ⟨rfl, rfl, rfl, rfl, rfl⟩ rfl rfl rfl rfl rfl (by kernel_rfl) Tryz.func5 (by kernel_rfl)
    (of_decide_eq_true (by kernel_rfl)) (by unfold Func.isWrapper; first | (rw [if_pos (by decide +kernel)]; kernel_rfl) | (rw [if_neg (by decide +kernel)]; exact ⟨rfl, rfl⟩))
    (fun os started H enc _ F => by rw [OpenClaim.pre_eq_preRow]; exact lifted os started H enc F)

/-- No parameter wants a stand-in; the program's own looks are off. -/
theorem plain (f : FuncId) (fn : Func) (hf : Tryz.pinned.checked.prog.funcNamed "breadboard/breadboardlaw17.ExprBrackets" = some f) (hfn : Tryz.pinned.checked.prog.funcs[f]? = some fn) :
    true = Tryz.pinned.checked.prog.looks [] ∧ ∀ (j : Nat) t, fn.params[j]? = some t → Tryz.pinned.checked.prog.wantsStandIn t = false := by
  obtain rfl : f = 5 := Option.some.inj ((show Tryz.prog.funcNamed "breadboard/breadboardlaw17.ExprBrackets" = some 5 by kernel_rfl).symm.trans hf) |>.symm
  obtain rfl : fn = Tryz.f5 := (Option.some.inj (Tryz.func5.symm.trans hfn)).symm
  refine ⟨by kernel_rfl, fun j t ht => ?_⟩
  rw [Tryz.params5] at ht
  have hm : t ∈ [9, 9, 3] := by simpa using Array.mem_of_getElem? ht
  have hall : ([9, 9, 3].all fun u => !Tryz.prog.wantsStandIn u) = true := by kernel_rfl
  exact (show Tryz.prog.wantsStandIn t = false by simpa using List.all_eq_true.1 hall t hm)

/-- The card. -/
theorem proved : Rows.ExprBracketsCardSaid :=
  Claim7.holds_tied_plain_at .later [] _ _ _ _ said (fun _ h => by cases h) (by kernel_rfl) (fun _ h => by cases h) exprBrackets_row_tie rfl ⟨rfl, rfl⟩ (by kernel_rfl) rfl plain (by kernel_rfl)
end Go.Proofs.YtpkbonfbehhbdaaGreatDoor.lawExprBrackets
