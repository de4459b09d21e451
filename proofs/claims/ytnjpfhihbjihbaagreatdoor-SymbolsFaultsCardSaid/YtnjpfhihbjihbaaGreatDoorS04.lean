/- Joined texts: NumQ, LexP. -/
import Derived.Test.YtnjpfhihbjihbaaGreatDoorS03
/- The ways to write a number, as the reference tries them. No program in sight. (Written by wip/gen_parse16.py.) -/
namespace Go.Proofs.YtnjpfhihbjihbaaGreatDoor
open Go.RowKit Go.Sort

/-- A byte of a string, or 0. -/
def bat (s : ByteArray) (i : Nat) : UInt8 := s.data[i]?.getD 0
theorem bat_get (s : ByteArray) (i : Nat) (h : i < s.size) : s[i] = bat s i := by
  unfold bat; rw [Array.getElem?_eq_getElem (by exact h)]; rfl

def pc1 (s : ByteArray) : Bool := decide (2 < s.size) && ((bat s 0).toNat == 48 && ((bat s 1).toNat == 120 || (bat s 1).toNat == 88))
def pc2 (s : ByteArray) : Bool := decide (1 < s.size) && (bat s 0).toNat == 36
def pc3 (s : ByteArray) : Bool := decide (1 < s.size) && (bat s 0).toNat == 37
def pc4 (s : ByteArray) : Bool := decide (1 < s.size) && (((bat s (s.size - 1)).toNat == 104 || (bat s (s.size - 1)).toNat == 72) && decide (digU (up (bat s 0)) < 10))
def pc5 (s : ByteArray) : Bool := decide (1 < s.size) && ((bat s (s.size - 1)).toNat == 98 || (bat s (s.size - 1)).toNat == 66)
def px1 (s : ByteArray) : Int := oI (valU 10 (upper s).data.toList)
def px2 (s : ByteArray) : Int := if pc1 s = true then max (px1 s) (oI (valU 16 (upper (s.extract 2 s.size)).data.toList)) else px1 s
def px3 (s : ByteArray) : Int := if pc2 s = true then max (px2 s) (oI (valU 16 (upper (s.extract 1 s.size)).data.toList)) else px2 s
def px4 (s : ByteArray) : Int := if pc3 s = true then max (px3 s) (oI (valU 2 (upper (s.extract 1 s.size)).data.toList)) else px3 s
def px5 (s : ByteArray) : Int := if pc4 s = true then max (px4 s) (oI (valU 16 (upper (s.extract 0 (s.size - 1))).data.toList)) else px4 s
def px6 (s : ByteArray) : Int := if pc5 s = true then max (px5 s) (oI (valU 2 (upper (s.extract 0 (s.size - 1))).data.toList)) else px5 s
theorem nil_or_snoc' {α : Type} (l : List α) : l = [] ∨ ∃ ys y, l = ys ++ [y] := by
  rcases List.eq_nil_or_concat l with h | ⟨ys, y, h⟩
  · exact .inl h
  · exact .inr ⟨ys, y, by rw [h, List.concat_eq_append]⟩
theorem up_48 (c : UInt8) : up c = 48 ↔ c = 48 := by
  have h := up_toNat c
  constructor
  · intro e; rw [e] at h
    apply UInt8.toNat_inj.1
    show c.toNat = 48
    have : ((48 : UInt8).toNat : Int) = 48 := rfl
    split at h <;> omega
  · rintro rfl; rfl
theorem up_36 (c : UInt8) : up c = 36 ↔ c = 36 := by
  have h := up_toNat c
  constructor
  · intro e; rw [e] at h
    apply UInt8.toNat_inj.1
    show c.toNat = 36
    have : ((36 : UInt8).toNat : Int) = 36 := rfl
    split at h <;> omega
  · rintro rfl; rfl
theorem up_37 (c : UInt8) : up c = 37 ↔ c = 37 := by
  have h := up_toNat c
  constructor
  · intro e; rw [e] at h
    apply UInt8.toNat_inj.1
    show c.toNat = 37
    have : ((37 : UInt8).toNat : Int) = 37 := rfl
    split at h <;> omega
  · rintro rfl; rfl
theorem up_let (c : UInt8) (k : Nat) (K : UInt8) (hK : K.toNat = k) (h1 : 65 ≤ k) (h2 : k ≤ 90) : up c = K ↔ (c.toNat = k + 32 ∨ c.toNat = k) := by
  have h := up_toNat c
  constructor
  · intro e; rw [e] at h
    split at h <;> omega
  · intro hc
    apply UInt8.toNat_inj.1
    split at h <;> omega
theorem up_88 (c : UInt8) : up c = 88 ↔ (c.toNat = 120 ∨ c.toNat = 88) := up_let c 88 88 rfl (by omega) (by omega)
theorem up_72 (c : UInt8) : up c = 72 ↔ (c.toNat = 104 ∨ c.toNat = 72) := up_let c 72 72 rfl (by omega) (by omega)
theorem up_66 (c : UInt8) : up c = 66 ↔ (c.toNat = 98 ∨ c.toNat = 66) := up_let c 66 66 rfl (by omega) (by omega)
theorem u8_nat (c : UInt8) (k : Nat) (K : UInt8) (hK : K.toNat = k) : c = K ↔ c.toNat = k := by
  rw [← UInt8.toNat_inj, hK]
theorem upper_ext (s : ByteArray) (i j : Nat) : (upper (s.extract i j)).data.toList = ((s.data.toList.map up).take j).drop i := by
  unfold upper
  simp [ByteArray.data_extract, List.map_drop, List.map_take, List.drop_take]
theorem bat_list (s : ByteArray) (i : Nat) : bat s i = s.data.toList[i]?.getD 0 := by
  unfold bat; simp

theorem max_none (x : Int) (h : -1 ≤ x) : max x (oI none) = x := by rw [oI_none]; omega
theorem valU_nil (b : Nat) : valU b [] = none := rfl
theorem or_max {c : Bool} {Q : Prop} [Decidable Q] {x : Int} {o o' : Option Nat} (hx : -1 ≤ x) (h : c = true → Q ∧ o = o') (h2 : c = false → Q → o' = none) :
    (if c = true then max x (oI o) else x) = max x (oI (if Q then o' else none)) := by
  cases c with
  | true => rw [if_pos rfl, if_pos (h rfl).1, (h rfl).2]
  | false =>
    rw [if_neg (by decide)]
    by_cases hq : Q
    · rw [if_pos hq, h2 rfl hq, max_none x hx]
    · rw [if_neg hq, max_none x hx]

theorem px_ge (s : ByteArray) : -1 ≤ px1 s ∧ -1 ≤ px2 s ∧ -1 ≤ px3 s ∧ -1 ≤ px4 s ∧ -1 ≤ px5 s := by
  have h1 : -1 ≤ px1 s := oI_ge _
  have h2 : -1 ≤ px2 s := by unfold px2; split <;> omega
  have h3 : -1 ≤ px3 s := by unfold px3; split <;> omega
  have h4 : -1 ≤ px4 s := by unfold px4; split <;> omega
  have h5 : -1 ≤ px5 s := by unfold px5; split <;> omega
  exact ⟨h1, h2, h3, h4, h5⟩

theorem upper_list (s : ByteArray) : (upper s).data.toList = s.data.toList.map up := by unfold upper; simp
theorem bat0 (s : ByteArray) (a : UInt8) (t : List UInt8) (h : s.data.toList = a :: t) : bat s 0 = a := by rw [bat_list, h]; rfl
theorem px2_eq (s : ByteArray) : px2 s = max (px1 s) (oI (if [48, 88].isPrefixOf (upper s).data.toList then valU 16 ((upper s).data.toList.drop 2) else none)) := by
  unfold px2
  refine or_max (px_ge s).1 ?_ ?_
  · intro h
    rw [upper_ext, List.take_of_length_le (by simp), upper_list]
    refine ⟨?_, rfl⟩
    unfold pc1 at h
    rw [bat_list, bat_list] at h
    generalize s.data.toList = l at h ⊢
    rcases l with _ | ⟨a, _ | ⟨b, t⟩⟩
    · simp at h
    · simp at h
    · simp only [List.getElem?_cons_zero, List.getElem?_cons_succ, Option.getD_some, Bool.and_eq_true, Bool.or_eq_true, beq_iff_eq] at h
      obtain ⟨_, h1, h2⟩ := h
      simp only [List.map_cons, List.isPrefixOf_cons_cons, List.isPrefixOf_nil_left, Bool.and_true, Bool.and_eq_true, beq_iff_eq]
      exact ⟨((up_48 a).2 ((u8_nat a 48 48 rfl).2 h1)).symm, ((up_88 b).2 h2).symm⟩
  · intro h hq
    rw [upper_list] at hq ⊢
    unfold pc1 at h
    have hl : s.size = s.data.toList.length := by simp
    rw [bat_list, bat_list, hl] at h
    generalize s.data.toList = l at h hq ⊢
    rcases l with _ | ⟨a, _ | ⟨b, _ | ⟨c, t⟩⟩⟩
    · rfl
    · rfl
    · rfl
    · exfalso
      simp only [List.map_cons, List.isPrefixOf_cons_cons, Bool.and_eq_true, beq_iff_eq] at hq
      have h1 := (up_48 a).1 hq.1.symm
      have h2 := (up_88 b).1 hq.2.1.symm
      subst h1
      simp at h
      omega

theorem pre1_eq (s : ByteArray) (K : UInt8) (k b : Nat) (hk : K.toNat = k) (hup : ∀ c, up c = K ↔ c = K) (x : Int) (hx : -1 ≤ x) :
    (if (decide (1 < s.size) && (bat s 0).toNat == k) = true then max x (oI (valU b (upper (s.extract 1 s.size)).data.toList)) else x) = max x (oI (if [K].isPrefixOf (upper s).data.toList then valU b ((upper s).data.toList.drop 1) else none)) := by
  refine or_max hx ?_ ?_
  · intro h
    rw [upper_ext, List.take_of_length_le (by simp), upper_list]
    refine ⟨?_, rfl⟩
    have hl : s.size = s.data.toList.length := by simp
    rw [bat_list, hl] at h
    generalize s.data.toList = l at h ⊢
    rcases l with _ | ⟨a, t⟩
    · simp at h
    · simp only [List.getElem?_cons_zero, Option.getD_some, Bool.and_eq_true, beq_iff_eq] at h
      simp only [List.map_cons, List.isPrefixOf_cons_cons, List.isPrefixOf_nil_left, Bool.and_true, beq_iff_eq]
      exact ((hup a).2 ((u8_nat a k K hk).2 h.2)).symm
  · intro h hq
    rw [upper_list] at hq ⊢
    have hl : s.size = s.data.toList.length := by simp
    rw [bat_list, hl] at h
    generalize s.data.toList = l at h hq ⊢
    rcases l with _ | ⟨a, _ | ⟨b, t⟩⟩
    · rfl
    · rfl
    · exfalso
      simp only [List.map_cons, List.isPrefixOf_cons_cons, List.isPrefixOf_nil_left, Bool.and_true, beq_iff_eq] at hq
      have h1 := (hup a).1 hq.symm
      subst h1
      simp [hk] at h

theorem gl_up (a : UInt8) (m : List UInt8) (z : UInt8) : (List.map up (a :: (m ++ [z]))).getLast? = some (up z) := by
  rw [← List.cons_append, List.map_append, List.getLast?_append]; rfl
theorem last_bat (s : ByteArray) (h : 1 < s.size) : ∃ a m z, s.data.toList = a :: (m ++ [z]) ∧ bat s (s.size - 1) = z ∧ bat s 0 = a := by
  have hl : s.size = s.data.toList.length := by simp
  rw [hl] at h
  rw [bat_list, bat_list, hl]
  generalize s.data.toList = l at h ⊢
  rcases l with _ | ⟨a, l⟩
  · simp at h
  · rcases nil_or_snoc' l with rfl | ⟨m, z, rfl⟩
    · simp at h
    · refine ⟨a, m, z, rfl, ?_, rfl⟩
      simp

theorem last_eq (s : ByteArray) (K : UInt8) (k b : Nat) (hup : ∀ c, up c = K ↔ (c.toNat = k + 32 ∨ c.toNat = k)) (x : Int) (hx : -1 ≤ x) :
    (if (decide (1 < s.size) && ((bat s (s.size - 1)).toNat == k + 32 || (bat s (s.size - 1)).toNat == k)) = true then max x (oI (valU b (upper (s.extract 0 (s.size - 1))).data.toList)) else x) = max x (oI (if (upper s).data.toList.getLast? = some K then valU b ((upper s).data.toList.dropLast) else none)) := by
  have hd : (upper (s.extract 0 (s.size - 1))).data.toList = (upper s).data.toList.dropLast := by
    rw [upper_ext, upper_list, List.drop_zero, List.dropLast_eq_take]; simp
  rw [hd, upper_list]
  refine or_max hx ?_ ?_
  · intro h
    refine ⟨?_, rfl⟩
    simp only [Bool.and_eq_true, Bool.or_eq_true, decide_eq_true_eq, beq_iff_eq] at h
    obtain ⟨a, m, z, e1, e2, e3⟩ := last_bat s h.1
    rw [e2] at h
    rw [e1, gl_up]
    exact congrArg some ((hup z).2 h.2)
  · intro h hq
    by_cases h1 : 1 < s.size
    · exfalso
      obtain ⟨a, m, z, e1, e2, e3⟩ := last_bat s h1
      rw [e2] at h
      rw [e1, gl_up] at hq
      have hz : up z = K := Option.some.inj hq
      have := (hup z).1 hz
      simp [h1] at h
      omega
    · have hl : s.size = s.data.toList.length := by simp
      rw [hl] at h1
      generalize s.data.toList = l at h1 ⊢
      rcases l with _ | ⟨a, _ | ⟨b, t⟩⟩
      · rfl
      · rfl
      · simp at h1

theorem px5_eq (s : ByteArray) : px5 s = max (px4 s) (oI (if (upper s).data.toList.getLast? = some 72 ∧ ((upper s).data.toList.dropLast.headD 99).toNat ≤ 57 then valU 16 (upper s).data.toList.dropLast else none)) := by
  unfold px5
  have hd : (upper (s.extract 0 (s.size - 1))).data.toList = (upper s).data.toList.dropLast := by
    rw [upper_ext, upper_list, List.drop_zero, List.dropLast_eq_take]; simp
  rw [hd, upper_list]
  refine or_max (px_ge s).2.2.2.1 ?_ ?_
  · intro h
    refine ⟨?_, rfl⟩
    unfold pc4 at h
    simp only [Bool.and_eq_true, Bool.or_eq_true, decide_eq_true_eq, beq_iff_eq] at h
    obtain ⟨a, m, z, e1, e2, e3⟩ := last_bat s h.1
    rw [e2, e3] at h
    rw [e1]
    refine ⟨by rw [gl_up]; exact congrArg some ((up_72 z).2 h.2.1), ?_⟩
    have h2 := h.2.2
    have : (List.map up (a :: (m ++ [z]))).dropLast.headD 99 = up a := by rw [← List.map_dropLast, ← List.cons_append, List.dropLast_concat]; rfl
    rw [this]
    unfold digU at h2
    split at h2
    · omega
    · split at h2 <;> omega
  · intro h hq
    by_cases h1 : 1 < s.size
    · obtain ⟨a, m, z, e1, e2, e3⟩ := last_bat s h1
      unfold pc4 at h
      rw [e2, e3] at h
      rw [e1] at hq ⊢
      have hdd : (List.map up (a :: (m ++ [z]))).dropLast = up a :: m.map up := by rw [← List.map_dropLast, ← List.cons_append, List.dropLast_concat]; rfl
      have hz : up z = 72 := Option.some.inj ((gl_up a m z).symm.trans hq.1)
      rw [hdd] at hq ⊢
      have hz2 := (up_72 z).1 hz
      have ha : (up a).toNat ≤ 57 := hq.2
      have h3 : ¬ digU (up a) < 10 := by
        intro h3
        simp [h1, h3] at h
        omega
      have h4 : 16 ≤ digU (up a) := by
        unfold digU at h3 ⊢
        split
        · rename_i h5; rw [if_pos h5] at h3; omega
        · split
          · omega
          · omega
      unfold valU
      rw [if_neg (by simp), valGo_cons, if_pos h4]
    · have hl : s.size = s.data.toList.length := by simp
      rw [hl] at h1
      generalize s.data.toList = l at h1 ⊢
      rcases l with _ | ⟨a, _ | ⟨b, t⟩⟩
      · rfl
      · rfl
      · simp at h1

theorem px6_eq (s : ByteArray) : px6 s = oI (numP s) := by
  have h3 : px3 s = _ := pre1_eq s 36 36 16 rfl up_36 (px2 s) (px_ge s).2.1
  have h4 : px4 s = _ := pre1_eq s 37 37 2 rfl up_37 (px3 s) (px_ge s).2.2.1
  have h6 : px6 s = _ := last_eq s 66 66 2 (fun c => up_66 c) (px5 s) (px_ge s).2.2.2.2
  unfold numP
  rw [← numMax_eq, h6, px5_eq, h4, h3, px2_eq]
  rfl
/-- What Parse returns. -/
def numR (s : ByteArray) : Int × Bool := match numP s with | some n => (n, true) | none => (0, false)
end Go.Proofs.YtnjpfhihbjihbaaGreatDoor

/- The tokens of a line. No program in sight. -/
namespace Go.Proofs.YtnjpfhihbjihbaaGreatDoor
open Go.RowKit Go.Sort

/-- The string behind a mark: from an offset on, with what is read already; none if it does not end. -/
def quotedGo (s : ByteArray) (mark : UInt8) (i : Nat) (acc : ByteArray) : Option (ByteArray × Nat) :=
  if h : i < s.size then
    (if s[i] = mark then (if i + 1 < s.size ∧ bat s (i + 1) = mark then quotedGo s mark (i + 2) (acc ++ sub s i (i + 1)) else some (acc, i + 1)) else quotedGo s mark (i + 1) (acc ++ sub s i (i + 1)))
  else none
  termination_by s.size - i
def quotedP (s : ByteArray) (i : Nat) : Option (ByteArray × Nat) := quotedGo s (bat s i) (i + 1) ⟨#[]⟩
theorem quotedGo_out (s : ByteArray) (m : UInt8) (i : Nat) (acc : ByteArray) (h : ¬ i < s.size) : quotedGo s m i acc = none := by
  rw [quotedGo, dif_neg h]
theorem quotedGo_step (s : ByteArray) (m : UInt8) (i : Nat) (acc : ByteArray) (h : i < s.size) (hm : s[i] ≠ m) : quotedGo s m i acc = quotedGo s m (i + 1) (acc ++ sub s i (i + 1)) := by
  rw [quotedGo, dif_pos h, if_neg hm]
theorem quotedGo_two (s : ByteArray) (m : UInt8) (i : Nat) (acc : ByteArray) (h : i < s.size) (hm : s[i] = m) (h2 : i + 1 < s.size) (hm2 : bat s (i + 1) = m) : quotedGo s m i acc = quotedGo s m (i + 2) (acc ++ sub s i (i + 1)) := by
  rw [quotedGo, dif_pos h, if_pos hm, if_pos ⟨h2, hm2⟩]
theorem quotedGo_end (s : ByteArray) (m : UInt8) (i : Nat) (acc : ByteArray) (h : i < s.size) (hm : s[i] = m) (h2 : ¬ (i + 1 < s.size ∧ bat s (i + 1) = m)) : quotedGo s m i acc = some (acc, i + 1) := by
  rw [quotedGo, dif_pos h, if_pos hm, if_neg h2]
theorem quotedGo_bd (s : ByteArray) (m : UInt8) (i : Nat) (acc t : ByteArray) (n : Nat) (h : quotedGo s m i acc = some (t, n)) : i < n ∧ n ≤ s.size ∧ t.size + i ≤ acc.size + n := by
  by_cases h1 : i < s.size
  · by_cases h2 : s[i] = m
    · by_cases h3 : i + 1 < s.size ∧ bat s (i + 1) = m
      · rw [quotedGo_two s m i acc h1 h2 h3.1 h3.2] at h
        have := quotedGo_bd s m (i + 2) _ t n h
        rw [ByteArray.size_append, ByteArray.size_extract] at this
        omega
      · rw [quotedGo_end s m i acc h1 h2 h3] at h
        simp only [Option.some.injEq, Prod.mk.injEq] at h
        obtain ⟨rfl, rfl⟩ := h
        omega
    · rw [quotedGo_step s m i acc h1 h2] at h
      have := quotedGo_bd s m (i + 1) _ t n h
      rw [ByteArray.size_append, ByteArray.size_extract] at this
      omega
  · rw [quotedGo_out s m i acc h1] at h; cases h
  termination_by s.size - i

theorem wordEnd_le (s : ByteArray) (i : Nat) (hi : i ≤ s.size) : wordEnd s i ≤ s.size := by
  have := runEnd_le s i hi
  unfold wordEnd
  repeat' split
  all_goals omega
theorem signLen_le (s : ByteArray) (i : Nat) (hi : i < s.size) : i + signLen s i ≤ s.size ∧ signLen s i ≤ 2 := by
  unfold signLen
  repeat' split
  all_goals omega

/-- Whether a number begins at an offset. -/
def isNumAt (s : ByteArray) (i : Nat) : Bool := isDig (bat s i) || bat s i == 37 || (bat s i == 36 && decide (i + 1 < runEnd s (i + 1)))
/-- The token at an offset, and the offset behind it. -/
def nextP (s : ByteArray) (i : Nat) : Except Int (Tok × Nat) :=
  if i < wordEnd s i then .ok (⟨1, sub s i (wordEnd s i), 0, i⟩, wordEnd s i)
  else if isNumAt s i = true then (match numP (sub s i (runEnd s (i + 1))) with | some x => .ok (⟨2, ⟨#[]⟩, x, i⟩, runEnd s (i + 1)) | none => .error 3)
  else if bat s i = 34 ∨ bat s i = 39 then (match quotedP s i with | some (t, e) => .ok (⟨3, t, 0, i⟩, e) | none => .error 3)
  else if signLen s i = 0 then .error 20 else .ok (⟨4, sub s i (i + signLen s i), 0, i⟩, i + signLen s i)
theorem nextP_bd (s : ByteArray) (i : Nat) (hi : i < s.size) (t : Tok) (n : Nat) (h : nextP s i = .ok (t, n)) : i < n ∧ n ≤ s.size ∧ t.text.size ≤ s.size ∧ 0 ≤ t.n ∧ t.n ≤ 65535 := by
  have h1 := wordEnd_le s i (by omega)
  have h2 := runEnd_le s (i + 1) (by omega)
  have h2' := runEnd_ge s (i + 1)
  have h3 := signLen_le s i hi
  unfold nextP at h
  split at h
  · cases h; simp only; rw [ByteArray.size_extract]; omega
  · split at h
    · split at h
      · rename_i x hx
        cases h
        have := numU_le (u := (upper (sub s i (runEnd s (i + 1)))).data.toList) (m := x) hx
        simp only
        exact ⟨by omega, h2, Nat.zero_le _, by omega, by omega⟩
      · cases h
    · split at h
      · split at h
        · rename_i t' e' hq
          cases h
          have := quotedGo_bd s _ _ _ _ _ hq
          simp only
          have hz : (⟨#[]⟩ : ByteArray).size = 0 := rfl
          rw [hz] at this
          refine ⟨?_, ?_, ?_, ?_, ?_⟩ <;> omega
        · cases h
      · split at h
        · cases h
        · cases h; simp only; rw [ByteArray.size_extract]; omega

theorem nextP_err (s : ByteArray) (i : Nat) (e : Int) (h : nextP s i = .error e) : e = 3 ∨ e = 20 := by
  unfold nextP at h
  split at h
  · cases h
  · split at h
    · split at h
      · cases h
      · cases h; exact .inl rfl
    · split at h
      · split at h
        · cases h
        · cases h; exact .inl rfl
      · split at h
        · cases h; exact .inr rfl
        · cases h

/-- Whether a token begins at an offset (no end, no remark). -/
def moreAt (s : ByteArray) (i : Nat) : Bool := decide (i < s.size) && bat s i != 59
/-- The tokens from an offset on, with those read already. -/
def toksGo (s : ByteArray) (i : Nat) (acc : List Tok) : Except Int (List Tok) :=
  if moreAt s (skipEnd s i) = true then
    (match nextP s (skipEnd s i) with
    | .error e => .error e
    | .ok (t, n) => if i < n ∧ n ≤ s.size then toksGo s n (acc ++ [t]) else .error 99)
  else .ok (acc ++ [⟨0, ⟨#[]⟩, 0, skipEnd s i⟩])
  termination_by s.size - i
def toksP (s : ByteArray) : Except Int (List Tok) := if 1024 < s.size then .error 19 else toksGo s 0 []
theorem toksGo_end (s : ByteArray) (i : Nat) (acc : List Tok) (h : moreAt s (skipEnd s i) = false) : toksGo s i acc = .ok (acc ++ [⟨0, ⟨#[]⟩, 0, skipEnd s i⟩]) := by
  rw [toksGo, if_neg (by rw [h]; decide)]
theorem toksGo_err (s : ByteArray) (i : Nat) (acc : List Tok) (e : Int) (h : moreAt s (skipEnd s i) = true) (hn : nextP s (skipEnd s i) = .error e) : toksGo s i acc = .error e := by
  rw [toksGo, if_pos h, hn]
theorem moreAt_lt {s : ByteArray} {i : Nat} (h : moreAt s i = true) : i < s.size := by
  unfold moreAt at h; simp at h; exact h.1
theorem toksGo_step (s : ByteArray) (i : Nat) (acc : List Tok) (t : Tok) (n : Nat) (h : moreAt s (skipEnd s i) = true) (hn : nextP s (skipEnd s i) = .ok (t, n)) : toksGo s i acc = toksGo s n (acc ++ [t]) := by
  have hl := moreAt_lt h
  have hb := nextP_bd s _ hl t n hn
  have hg := skipEnd_ge s i
  rw [toksGo, if_pos h, hn]
  simp only
  rw [if_pos ⟨by omega, hb.2.1⟩]
/-- What is promised of the tokens of a line. -/
theorem toksGo_all (s : ByteArray) (i : Nat) (acc l : List Tok) (h : toksGo s i acc = .ok l) (p : Tok → Prop) (ha : ∀ t ∈ acc, p t) (he : ∀ j : Nat, p ⟨0, ⟨#[]⟩, 0, j⟩) (hp : ∀ (j n : Nat) t, j < s.size → nextP s j = .ok (t, n) → p t) : ∀ t ∈ l, p t := by
  by_cases h1 : moreAt s (skipEnd s i) = true
  · cases hn : nextP s (skipEnd s i) with
    | error e => rw [toksGo_err s i acc e h1 hn] at h; cases h
    | ok x =>
      obtain ⟨t, n⟩ := x
      have hl := moreAt_lt h1
      have hb := nextP_bd s _ hl t n hn
      have hg := skipEnd_ge s i
      rw [toksGo_step s i acc t n h1 hn] at h
      refine toksGo_all s n (acc ++ [t]) l h p ?_ he hp
      intro u hu
      rcases List.mem_append.1 hu with hu | hu
      · exact ha u hu
      · rw [List.mem_singleton] at hu; subst hu; exact hp _ _ _ hl hn
  · rw [toksGo_end s i acc (by simpa using h1)] at h
    cases h
    intro u hu
    rcases List.mem_append.1 hu with hu | hu
    · exact ha u hu
    · rw [List.mem_singleton] at hu; subst hu; exact he _
  termination_by s.size - i
theorem toksGo_len (s : ByteArray) (i : Nat) (acc l : List Tok) (hi : i ≤ s.size) (h : toksGo s i acc = .ok l) : acc.length + 1 ≤ l.length ∧ l.length + i ≤ acc.length + 1 + s.size := by
  by_cases h1 : moreAt s (skipEnd s i) = true
  · cases hn : nextP s (skipEnd s i) with
    | error e => rw [toksGo_err s i acc e h1 hn] at h; cases h
    | ok x =>
      obtain ⟨t, n⟩ := x
      have hl := moreAt_lt h1
      have hb := nextP_bd s _ hl t n hn
      have hg := skipEnd_ge s i
      rw [toksGo_step s i acc t n h1 hn] at h
      have := toksGo_len s n (acc ++ [t]) l hb.2.1 h
      simp only [List.length_append, List.length_singleton] at this
      omega
  · rw [toksGo_end s i acc (by simpa using h1)] at h
    cases h
    simp only [List.length_append, List.length_singleton]
    omega
  termination_by s.size - i
end Go.Proofs.YtnjpfhihbjihbaaGreatDoor
