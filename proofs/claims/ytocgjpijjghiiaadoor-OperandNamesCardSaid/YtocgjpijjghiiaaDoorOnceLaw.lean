/- Operands of a kind with the same form are equal; each name denotes its operand: the plain facts. -/
import Derived.Test.YtocgjpijjghiiaaDoorAlive06
import Derived.Test.YtocgjpijjghiiaaDoorLawTexts
import Derived.Test.YtocgjpijjghiiaaDoorTexts
namespace Go.Proofs.YtocgjpijjghiiaaDoor
open Go.RowKit Go.Sort

/-! ### Which names denote what -/
theorem mem_wl {p : ByteArray → Bool} {k r : Nat} {x : Nat × Nat} : x ∈ wl p k r ↔ x.1 = k ∧ x.2 < r ∧ (nm k x.2).toList.isEmpty = false ∧ p (nm k x.2) = true := by
  obtain ⟨a, b⟩ := x
  simp only [wl, List.mem_map, List.mem_filter, List.mem_range, Bool.and_eq_true, Bool.not_eq_true', Prod.mk.injEq]
  constructor
  · rintro ⟨j, ⟨h1, h2, h3⟩, rfl, rfl⟩; exact ⟨rfl, h1, h2, h3⟩
  · rintro ⟨rfl, h1, h2, h3⟩; exact ⟨b, ⟨h1, h2, h3⟩, rfl, rfl⟩
theorem mem_wlist {p : ByteArray → Bool} {i : Nat} {x : Nat × Nat} : x ∈ wlist p i ↔ ∃ j, j < i ∧ x.1 = kindAt j ∧ x.2 < 9 ∧ (nm (kindAt j) x.2).toList.isEmpty = false ∧ p (nm (kindAt j) x.2) = true := by
  simp only [wlist, List.mem_flatMap, List.mem_range, mem_wl]

theorem named_kind (s : ByteArray) (k r n : Int) (h : (k, r, n) ∈ namedO s) : k = 1 ∨ k = 2 ∨ k = 3 ∨ k = 8 ∨ k = 9 := by
  obtain ⟨⟨a, b⟩, hm, he⟩ := List.mem_map.1 h
  obtain ⟨j, hj, h1, _⟩ := mem_wlist.1 hm
  simp only [Prod.mk.injEq] at he h1
  obtain ⟨rfl, _, _⟩ := he
  have : j = 0 ∨ j = 1 ∨ j = 2 ∨ j = 3 ∨ j = 4 := by omega
  rcases this with rfl | rfl | rfl | rfl | rfl <;> simp [kindAt] at h1 <;> omega

theorem named_self : ∀ (k : Fin 11) (r : Fin 9), (k.val = 1 ∨ k.val = 2 ∨ k.val = 3 ∨ k.val = 8 ∨ k.val = 9) → (nm k.val r.val).toList.isEmpty = false → ((k.val : Int), (r.val : Int), (0 : Int)) ∈ namedO (nm k.val r.val) := by decide +kernel

/-- A name that denotes two operands is C. -/
theorem two_names : ∀ (i : Fin 5) (j : Fin 9), 1 < (wlist (fun x => x.toList == (nm (kindAt i.val) j.val).toList) 5).length → (nm (kindAt i.val) j.val).toList = [67] := by decide +kernel
theorem named_two (s : ByteArray) (h : 1 < (namedO s).length) : (upper s).toList = [67] := by
  unfold namedO at h
  rw [List.length_map] at h
  unfold namedL at h
  obtain ⟨x, hx⟩ : ∃ x, x ∈ wlist (fun x => x.toList == (upper s).toList) 5 := by
    cases hl : wlist (fun x => x.toList == (upper s).toList) 5 with
    | nil => rw [hl] at h; exact absurd h (by decide)
    | cons x _ => exact ⟨x, List.mem_cons_self ..⟩
  obtain ⟨j, hj, h1, h2, h3, h4⟩ := mem_wlist.1 hx
  have e : (nm (kindAt j) x.2).toList = (upper s).toList := by simpa using h4
  rw [← e] at h ⊢
  exact two_names ⟨j, hj⟩ ⟨x.2, h2⟩ h

theorem upper_C : ∀ (k : Fin 11) (r : Fin 9), (upper (nm k.val r.val)).toList = [67] → (nm k.val r.val) = ⟨#[67]⟩ := by decide +kernel
theorem upper_size (s : ByteArray) : (upper s).size = s.size := by
  unfold upper
  show ((s.data.toList.map up).toArray).size = s.size
  simp
theorem size_of_toList {s : ByteArray} {l : List UInt8} (h : s.toList = l) : s.size = l.length := by
  rw [← h, ByteArray.toList_eq]; simp

/-! ### The texts of numbers are told apart -/
/-- The value of a digit. -/
def dg (c : UInt8) : Nat := if c.toNat < 58 then c.toNat - 48 else c.toNat - 55
def hv (l : List UInt8) : Nat := l.foldl (fun a c => a * 16 + dg c) 0
theorem hv_snoc (l : List UInt8) (c : UInt8) : hv (l ++ [c]) = hv l * 16 + dg c := by simp [hv]
theorem hv_zero (l : List UInt8) : hv (48 :: l) = hv l := by
  show List.foldl _ (0 * 16 + dg 48) l = _
  rfl
theorem dg_up : ∀ d : Fin 16, dg (up (hexLow d.val)) = d.val ∧ 48 ≤ (up (hexLow d.val)).toNat := by decide +kernel
theorem hv_hexDigs : ∀ (f u : Nat), u < 16 ^ f → hv ((hexDigs f u).map up) = u
  | 0, u, h => by simp at h; subst h; rfl
  | f + 1, u, h => by
    by_cases hu : u < 16
    · rw [hexDigs_small f u hu]
      have := (dg_up ⟨u, hu⟩).1
      simpa [hv] using this
    · rw [hexDigs_big f u (by omega), List.map_append, List.map_cons, List.map_nil, hv_snoc, hv_hexDigs f (u / 16) (by rw [Nat.pow_succ] at h; omega), (dg_up ⟨u % 16, by omega⟩).1]
      show u / 16 * 16 + u % 16 = u
      omega
theorem hexDigs_ge : ∀ (f u : Nat), ∀ c ∈ (hexDigs f u).map up, 48 ≤ c.toNat
  | 0, u, c, h => by simp [hexDigs] at h
  | f + 1, u, c, h => by
    by_cases hu : u < 16
    · rw [hexDigs_small f u hu] at h
      simp at h; subst h
      exact (dg_up ⟨u, hu⟩).2
    · rw [hexDigs_big f u (by omega), List.map_append, List.mem_append] at h
      rcases h with h | h
      · exact hexDigs_ge f _ c h
      · simp at h; subst h
        exact (dg_up ⟨u % 16, by omega⟩).2

theorem numText_bytes (n : Int) (h0 : 0 ≤ n) (h1 : n ≤ 65535) : (n ≤ 9 ∧ (numText n).data.toList = [UInt8.ofNat (48 + n.toNat)]) ∨
    (10 ≤ n ∧ ((numText n).data.toList = (hexDigs 4 n.toNat).map up ++ [72] ∨ (numText n).data.toList = 48 :: ((hexDigs 4 n.toNat).map up ++ [72]))) := by
  unfold numText
  rw [if_neg (by omega)]
  split
  · exact .inl ⟨by omega, rfl⟩
  · refine .inr ⟨by omega, ?_⟩
    split
    · right; simp [upper]
    · left; simp [upper]
def dec (l : List UInt8) : Nat := if l.length ≤ 1 then hv l else hv l.dropLast
theorem dec_small : ∀ d : Fin 10, dec [UInt8.ofNat (48 + d.val)] = d.val ∧ 48 ≤ (UInt8.ofNat (48 + d.val)).toNat ∧ up (UInt8.ofNat (48 + d.val)) ≠ 67 := by decide +kernel
theorem dec_numText (n : Int) (h0 : 0 ≤ n) (h1 : n ≤ 65535) : (dec (numText n).data.toList : Int) = n := by
  have hp : 0 < (hexDigs 4 n.toNat).length := hexDigs_pos 3 n.toNat
  have hh := hv_hexDigs 4 n.toNat (by omega)
  rcases numText_bytes n h0 h1 with ⟨h, e⟩ | ⟨h, e | e⟩
  · rw [e]
    have := (dec_small ⟨n.toNat, by omega⟩).1
    simp only at this
    rw [this]; omega
  · rw [e]
    unfold dec
    rw [if_neg (by rw [List.length_append, List.length_map]; show ¬ _ + 1 ≤ 1; omega), List.dropLast_concat, hh]; omega
  · rw [e]
    unfold dec
    rw [if_neg (by simp), show (48 :: ((hexDigs 4 n.toNat).map up ++ [72])) = (48 :: (hexDigs 4 n.toNat).map up) ++ [72] from rfl, List.dropLast_concat, hv_zero, hh]; omega
theorem numText_ge (n : Int) (h0 : 0 ≤ n) (h1 : n ≤ 65535) : ∀ c ∈ (numText n).data.toList, 48 ≤ c.toNat := by
  intro c hc
  have hg := hexDigs_ge 4 n.toNat c
  rcases numText_bytes n h0 h1 with ⟨h, e⟩ | ⟨h, e | e⟩
  · rw [e] at hc
    have := (dec_small ⟨n.toNat, by omega⟩).2.1
    rw [List.mem_singleton] at hc; subst hc; exact this
  · rw [e, List.mem_append] at hc
    rcases hc with hc | hc
    · exact hg hc
    · simp at hc; subst hc; decide
  · rw [e, List.mem_cons, List.mem_append] at hc
    rcases hc with hc | hc | hc
    · subst hc; decide
    · exact hg hc
    · simp at hc; subst hc; decide
theorem numText_inj (n m : Int) (h0 : 0 ≤ n) (h1 : n ≤ 65535) (h2 : 0 ≤ m) (h3 : m ≤ 65535) (h : (numText n).data.toList = (numText m).data.toList) : n = m := by
  have e1 := dec_numText n h0 h1
  have e2 := dec_numText m h2 h3
  rw [h] at e1
  omega
theorem signedS_bytes (n : Int) : (signedS n).data.toList = if n < 0 then 45 :: (numText (-n)).data.toList else 43 :: (numText n).data.toList := by
  unfold signedS; split <;> simp
theorem signedS_inj (n m : Int) (h0 : -65535 ≤ n) (h1 : n ≤ 65535) (h2 : -65535 ≤ m) (h3 : m ≤ 65535) (h : (signedS n).data.toList = (signedS m).data.toList) : n = m := by
  rw [signedS_bytes, signedS_bytes] at h
  split at h <;> split at h
  · have := numText_inj (-n) (-m) (by omega) (by omega) (by omega) (by omega) (List.cons.inj h).2
    omega
  · exact absurd (List.cons.inj h).1 (by decide)
  · exact absurd (List.cons.inj h).1 (by decide)
  · exact numText_inj n m (by omega) (by omega) (by omega) (by omega) (List.cons.inj h).2
theorem signed_num (n m : Int) (h2 : 0 ≤ m) (h3 : m ≤ 65535) : (signedS n).data.toList ≠ (numText m).data.toList := by
  intro h
  have hg := numText_ge m h2 h3
  rw [← h, signedS_bytes] at hg
  split at hg
  · exact absurd (hg 45 (List.mem_cons_self ..)) (by decide)
  · exact absurd (hg 43 (List.mem_cons_self ..)) (by decide)
end Go.Proofs.YtocgjpijjghiiaaDoor

