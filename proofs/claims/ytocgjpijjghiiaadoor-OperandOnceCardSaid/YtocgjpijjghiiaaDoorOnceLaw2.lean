/- Operands of a kind with the same form are equal; each name denotes its operand: the law in plain words. -/
import Derived.Test.YtocgjpijjghiiaaDoorOnceLaw
namespace Go.Proofs.YtocgjpijjghiiaaDoor
open Go.RowKit Go.Sort

theorem nm_one : ∀ (k : Fin 11) (r : Fin 9), (k.val = 6 ∨ k.val = 7 ∨ k.val = 10) → (nm k.val r.val).toList.isEmpty = false → r.val = 0 := by decide +kernel
theorem nm_two : ∀ (r : Fin 9), (nm 5 r.val).toList.isEmpty = false → (nm 5 r.val).data.toList.length = 2 := by decide +kernel
theorem nm_inj : ∀ (k : Fin 11) (r q : Fin 9), (k.val = 1 ∨ k.val = 2 ∨ k.val = 3 ∨ k.val = 4 ∨ k.val = 5 ∨ k.val = 8 ∨ k.val = 9) → (nm k.val r.val).toList.isEmpty = false → (nm k.val r.val).data.toList = (nm k.val q.val).data.toList → r = q := by decide +kernel
theorem nm_four : ∀ (r : Fin 9), (nm 4 r.val).toList.isEmpty = false → (nm 4 r.val).size ≠ 0 := by decide +kernel

theorem ba_bytes {a b : ByteArray} (h : a = b) : a.data.toList = b.data.toList := by rw [h]

/-- A valid operand's parts, and its form. -/
theorem opText_form {k r n : Int} (h : opValid k r n = true) : ∃ a b : Nat, k = a ∧ r = b ∧ 1 ≤ a ∧ a ≤ 10 ∧ b < 9 ∧ (nm a b).toList.isEmpty = false ∧ klo a ≤ n ∧ n ≤ khi a ∧ opText k r n = formS a (nm a b) n := by
  obtain ⟨a, b, rfl, rfl, h1, h2, h3, h4, h5, h6⟩ := opValid_parts h
  exact ⟨a, b, rfl, rfl, h1, h2, h3, h4, h5, h6, by unfold opText; rw [h, if_pos rfl, Int.toNat_natCast, Int.toNat_natCast]⟩

/-- A name denotes the operand that bears it; no other form is a name of its operand. -/
theorem once_named (k r n : Int) (h : opValid k r n = true) : decide ((k, r, n) ∈ namedO (opText k r n)) = (k == 1 || k == 2 || k == 3 || k == 8 || k == 9) := by
  by_cases hk : k = 1 ∨ k = 2 ∨ k = 3 ∨ k = 8 ∨ k = 9
  · have e : (k == 1 || k == 2 || k == 3 || k == 8 || k == 9) = true := by rcases hk with rfl | rfl | rfl | rfl | rfl <;> rfl
    rw [e, decide_eq_true_eq]
    obtain ⟨a, b, rfl, rfl, h1, h2, h3, h4, h5, h6, hf⟩ := opText_form h
    rw [hf]
    have ha : a = 1 ∨ a = 2 ∨ a = 3 ∨ a = 8 ∨ a = 9 := by omega
    have hn : n = 0 := by rcases ha with rfl | rfl | rfl | rfl | rfl <;> (simp only [klo, khi] at h5 h6; omega)
    subst hn
    have hs := named_self ⟨a, by omega⟩ ⟨b, h3⟩ ha h4
    rcases ha with rfl | rfl | rfl | rfl | rfl <;> exact hs
  · have e : (k == 1 || k == 2 || k == 3 || k == 8 || k == 9) = false := by simp; omega
    rw [e, decide_eq_false_iff_not]
    exact fun hm => hk (named_kind _ _ _ _ hm)

theorem signedS_two (n : Int) (h0 : -65535 ≤ n) (h1 : n ≤ 65535) : 2 ≤ (signedS n).size := by
  unfold signedS
  split
  · have := numText_pos (-n) (by omega) (by omega); rw [ByteArray.size_append]; show 2 ≤ 1 + _; omega
  · have := numText_pos n (by omega) (by omega); rw [ByteArray.size_append]; show 2 ≤ 1 + _; omega
theorem upper_digit (n : Int) (h0 : 0 ≤ n) (h1 : n ≤ 65535) : (upper (numText n)).toList ≠ [67] := by
  intro h
  have hs := size_of_toList h
  rw [upper_size] at hs
  have hs' : (numText n).data.toList.length = 1 := by simpa using hs
  rcases numText_bytes n h0 h1 with ⟨h9, e⟩ | ⟨h9, e | e⟩
  · have h3 := (dec_small ⟨n.toNat, by omega⟩).2.2
    apply h3
    rw [ByteArray.toList_eq] at h
    simp only [upper, e, List.map_cons, List.map_nil] at h
    exact (List.cons.inj h).1
  · have hp : 0 < (hexDigs 4 n.toNat).length := hexDigs_pos 3 n.toNat
    rw [e, List.length_append, List.length_map] at hs'
    simp only [List.length_cons, List.length_nil] at hs'
    omega
  · rw [e] at hs'
    simp at hs'

/-- A form that denotes two operands is C. -/
theorem once_two (k r n : Int) (h : opValid k r n = true) (h2 : 1 < (namedO (opText k r n)).length) : opText k r n = ⟨#[67]⟩ := by
  have hu := named_two _ h2
  have hs := size_of_toList hu
  rw [upper_size] at hs
  simp only [List.length_cons, List.length_nil] at hs
  obtain ⟨a, b, rfl, rfl, g1, g2, g3, g4, g5, g6, hf⟩ := opText_form h
  rw [hf] at hu hs ⊢
  have ha : a = 1 ∨ a = 2 ∨ a = 3 ∨ a = 4 ∨ a = 5 ∨ a = 6 ∨ a = 7 ∨ a = 8 ∨ a = 9 ∨ a = 10 := by omega
  have hC := upper_C ⟨a, by omega⟩ ⟨b, g3⟩
  rcases ha with rfl | rfl | rfl | rfl | rfl | rfl | rfl | rfl | rfl | rfl
  · exact hC hu
  · exact hC hu
  · exact hC hu
  · exfalso
    have : (formS 4 (nm 4 b) n).size = 1 + (nm 4 b).size + 1 := by
      show ((⟨#[40]⟩ : ByteArray) ++ nm 4 b ++ (⟨#[41]⟩ : ByteArray)).size = _
      rw [ByteArray.size_append, ByteArray.size_append]; rfl
    omega
  · exfalso
    have : (formS 5 (nm 5 b) n).size = 1 + (nm 5 b).size + (signedS n).size + 1 := by
      show ((⟨#[40]⟩ : ByteArray) ++ nm 5 b ++ signedS n ++ (⟨#[41]⟩ : ByteArray)).size = _
      rw [ByteArray.size_append, ByteArray.size_append, ByteArray.size_append]; rfl
    omega
  · exfalso
    simp only [klo, khi] at g5 g6
    by_cases hn : n < 0
    · have e : formS 6 (nm 6 b) n = signedS n := by
        show (if n < 0 then signedS n else numText n) = _
        rw [if_pos hn]
      rw [e] at hs
      have := signedS_two n (by omega) g6
      omega
    · have e : formS 6 (nm 6 b) n = numText n := by
        show (if n < 0 then signedS n else numText n) = _
        rw [if_neg hn]
      rw [e] at hu
      exact upper_digit n (by omega) g6 hu
  · exfalso
    have : (formS 7 (nm 7 b) n).size = 1 + (numText n).size + 1 := by
      show ((⟨#[40]⟩ : ByteArray) ++ numText n ++ (⟨#[41]⟩ : ByteArray)).size = _
      rw [ByteArray.size_append, ByteArray.size_append]; rfl
    omega
  · exact hC hu
  · exact hC hu
  · exfalso
    simp only [klo, khi] at g5 g6
    have : (formS 10 (nm 10 b) n).size = 1 + (signedS (n + 2)).size := by
      show ((⟨#[36]⟩ : ByteArray) ++ signedS (n + 2)).size = _
      rw [ByteArray.size_append]; rfl
    have := signedS_two (n + 2) (by omega) (by omega)
    omega

/-- Operands of one kind with one form are equal. -/
theorem once_inj (k r n q m : Int) (h : opValid k r n = true) (h' : opValid k q m = true) (he : opText k r n = opText k q m) : r = q ∧ n = m := by
  obtain ⟨a, b, rfl, rfl, g1, g2, g3, g4, g5, g6, hf⟩ := opText_form h
  obtain ⟨a', b', ha', rfl, _, _, g3', g4', g5', g6', hf'⟩ := opText_form h'
  obtain rfl : a = a' := by omega
  rw [hf, hf'] at he
  have hb := ba_bytes he
  have hi := nm_inj ⟨a, by omega⟩ ⟨b, g3⟩ ⟨b', g3'⟩
  have ho := nm_one ⟨a, by omega⟩ ⟨b, g3⟩
  have ho' := nm_one ⟨a, by omega⟩ ⟨b', g3'⟩
  have ha : a = 1 ∨ a = 2 ∨ a = 3 ∨ a = 4 ∨ a = 5 ∨ a = 6 ∨ a = 7 ∨ a = 8 ∨ a = 9 ∨ a = 10 := by omega
  rcases ha with rfl | rfl | rfl | rfl | rfl | rfl | rfl | rfl | rfl | rfl
  all_goals simp only [klo, khi] at g5 g6 g5' g6'
  · have := hi (by simp) g4 hb; cases this; exact ⟨rfl, by omega⟩
  · have := hi (by simp) g4 hb; cases this; exact ⟨rfl, by omega⟩
  · have := hi (by simp) g4 hb; cases this; exact ⟨rfl, by omega⟩
  · have hb2 : 40 :: ((nm 4 b).data.toList ++ [41]) = 40 :: ((nm 4 b').data.toList ++ [41]) := by simpa [formS] using hb
    have := hi (by simp) g4 (List.append_cancel_right (List.cons.inj hb2).2); cases this; exact ⟨rfl, by omega⟩
  · have hb2 : 40 :: ((nm 5 b).data.toList ++ ((signedS n).data.toList ++ [41])) = 40 :: ((nm 5 b').data.toList ++ ((signedS m).data.toList ++ [41])) := by simpa [formS] using hb
    obtain ⟨e1, e2⟩ := List.append_inj (List.cons.inj hb2).2 (by rw [nm_two ⟨b, g3⟩ g4, nm_two ⟨b', g3'⟩ g4'])
    have := hi (by simp) g4 e1; cases this
    exact ⟨rfl, signedS_inj n m (by omega) (by omega) (by omega) (by omega) (List.append_cancel_right e2)⟩
  · have e1 : b = 0 := ho (by simp) g4
    have e2 : b' = 0 := ho' (by simp) g4'
    refine ⟨by omega, ?_⟩
    have hb2 : (if n < 0 then signedS n else numText n).data.toList = (if m < 0 then signedS m else numText m).data.toList := hb
    split at hb2 <;> split at hb2
    · exact signedS_inj n m (by omega) (by omega) (by omega) (by omega) hb2
    · exact absurd hb2 (signed_num n m (by omega) (by omega))
    · exact absurd hb2.symm (signed_num m n (by omega) (by omega))
    · exact numText_inj n m (by omega) (by omega) (by omega) (by omega) hb2
  · have e1 : b = 0 := ho (by simp) g4
    have e2 : b' = 0 := ho' (by simp) g4'
    refine ⟨by omega, ?_⟩
    have hb2 : 40 :: ((numText n).data.toList ++ [41]) = 40 :: ((numText m).data.toList ++ [41]) := by simpa [formS] using hb
    exact numText_inj n m (by omega) (by omega) (by omega) (by omega) (List.append_cancel_right (List.cons.inj hb2).2)
  · have := hi (by simp) g4 hb; cases this; exact ⟨rfl, by omega⟩
  · have := hi (by simp) g4 hb; cases this; exact ⟨rfl, by omega⟩
  · have e1 : b = 0 := ho (by simp) g4
    have e2 : b' = 0 := ho' (by simp) g4'
    refine ⟨by omega, ?_⟩
    have hb2 : 36 :: (signedS (n + 2)).data.toList = 36 :: (signedS (m + 2)).data.toList := by simpa [formS] using hb
    have := signedS_inj (n + 2) (m + 2) (by omega) (by omega) (by omega) (by omega) (List.cons.inj hb2).2
    omega
end Go.Proofs.YtocgjpijjghiiaaDoor

