/- The texts of operands in a row: the plain facts. -/
import Derived.Test.YtocgjpijjghiiaaDoorOpText
import Derived.Test.YtocgjpijjghiiaaDoorOpEq
import Derived.Lib.Join
namespace Go.Proofs.YtocgjpijjghiiaaDoor
open Go.RowKit Go.Sort

theorem formS_len (k : Nat) (s : ByteArray) (n : Int) (hs : s.size ≤ 10) : (formS k s n).size ≤ 100 := by
  have h1 := signedS_len n
  have h2 := numText_len n
  have h3 := signedS_len (n + 2)
  unfold formS
  split
  · rw [ByteArray.size_append, ByteArray.size_append]; show 1 + _ + 1 ≤ 100; omega
  · split
    · rw [ByteArray.size_append, ByteArray.size_append, ByteArray.size_append]; show 1 + _ + _ + 1 ≤ 100; omega
    · split
      · split <;> omega
      · split
        · rw [ByteArray.size_append, ByteArray.size_append]; show 1 + _ + 1 ≤ 100; omega
        · split
          · rw [ByteArray.size_append]; show 1 + _ ≤ 100; omega
          · omega
theorem opText_len (k r n : Int) : (opText k r n).size ≤ 100 := by
  unfold opText
  split
  · exact formS_len _ _ _ (nm_len _ _)
  · exact Nat.zero_le _

/-- The texts of operands. -/
def texts (l : List Op3) : List ByteArray := l.map fun x => opText x.1 x.2.1 x.2.2
/-- The texts with commas between them. -/
def listS (l : List Op3) : ByteArray := ⟨(Lib.join ((texts l).map (·.data.toList)) [44]).toArray⟩

theorem lens_le (l : List Op3) : Lib.lens ((texts l).map (·.data.toList)) ≤ l.length * 100 := by
  induction l with
  | nil => simp [texts, Lib.lens]
  | cons x l ih =>
    have := opText_len x.1 x.2.1 x.2.2
    simp only [texts, Lib.lens, List.map_cons, List.sum_cons, List.length_cons, List.map_map] at ih ⊢
    have e : (opText x.1 x.2.1 x.2.2).data.toList.length = (opText x.1 x.2.1 x.2.2).size := by simp
    rw [e]
    omega
theorem join_len (l : List Op3) : (Lib.join ((texts l).map (·.data.toList)) [44]).length ≤ l.length * 101 := by
  cases l with
  | nil => simp [texts, Lib.join_nil]
  | cons x l =>
    have h1 := opText_len x.1 x.2.1 x.2.2
    have h2 := lens_le l
    have e : (opText x.1 x.2.1 x.2.2).data.toList.length = (opText x.1 x.2.1 x.2.2).size := by simp
    have : (Lib.join ((texts (x :: l)).map (·.data.toList)) [44]).length = (opText x.1 x.2.1 x.2.2).data.toList.length + (Lib.joinTail [44] ((texts l).map (·.data.toList))).length := by
      rw [← List.length_append, ← Lib.join_cons]; rfl
    rw [this, Lib.joinTail_length, e]
    simp only [texts, List.length_map, List.length_cons, List.length_nil] at h2 ⊢
    omega
theorem listS_len (l : List Op3) : (listS l).size ≤ l.length * 101 := by
  have := join_len l
  show (Lib.join ((texts l).map (·.data.toList)) [44]).toArray.size ≤ _
  simpa using this

theorem join_snoc (xs : List (List UInt8)) (y sep : List UInt8) (h : xs ≠ []) : Lib.join (xs ++ [y]) sep = Lib.join xs sep ++ sep ++ y := by
  cases xs with
  | nil => exact absurd rfl h
  | cons x r =>
    rw [List.cons_append, Lib.join_cons, Lib.join_cons]
    simp [Lib.joinTail]
theorem ba_ext {a b : ByteArray} (h : a.data.toList = b.data.toList) : a = b := by
  cases a; cases b; simp at h; cases h; rfl
theorem listS_one (l : List Op3) (x : Op3) (h : l[0]? = some x) : listS (l.take 1) = opText x.1 x.2.1 x.2.2 := by
  cases l with
  | nil => cases h
  | cons y l =>
    simp at h; subst h
    apply ba_ext
    simp [listS, texts, Lib.join_one]
theorem listS_succ (l : List Op3) (j : Nat) (x : Op3) (h : l[j]? = some x) (h0 : 0 < j) : listS (l.take (j + 1)) = listS (l.take j) ++ (⟨#[44]⟩ : ByteArray) ++ opText x.1 x.2.1 x.2.2 := by
  apply ba_ext
  have hne : (texts (l.take j)).map (·.data.toList) ≠ [] := by
    intro e
    have h1 := congrArg List.length e
    have := (List.getElem?_eq_some_iff.1 h).1
    simp only [texts, List.length_map, List.length_take, List.length_nil] at h1
    omega
  have : (texts (l.take (j + 1))).map (·.data.toList) = (texts (l.take j)).map (·.data.toList) ++ [(opText x.1 x.2.1 x.2.2).data.toList] := by
    rw [List.take_add_one, h]
    simp [texts]
  simp [listS, this, join_snoc _ _ _ hne]
end Go.Proofs.YtocgjpijjghiiaaDoor

