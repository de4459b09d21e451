/- All names of operands: the plain facts. (Written by wip/gen_names.py.) -/
import Derived.Test.YtocgjpijjghiiaaDoorTexts
import Derived.Test.YtocgjpijjghiiaaDoorAlive06
import Derived.Test.YtocgjpijjghiiaaDoorOnceLaw
import Derived.Sort.KeysCollected
import Derived.Lib.SlicesCompact
import Derived.Lib.SlicesS
namespace Go.Proofs.YtocgjpijjghiiaaDoor
open Go.RowKit Go.Sort

/-- All operands with names. -/
def nOps : List Op3 := (wlist (fun _ => true) 5).map fun x => ((x.1 : Int), (x.2 : Int), (0 : Int))
/-- Their texts. -/
def nTexts : List (List UInt8) := (texts nOps).map (·.data.toList)
/-- The texts in order. -/
def nSorted : List (List UInt8) := [[65], [65, 70], [65, 70, 39], [66], [66, 67], [67], [67], [68], [68, 69], [69], [72], [72, 76], [73], [73, 88], [73, 88, 72], [73, 88, 76], [73, 89], [73, 89, 72], [73, 89, 76], [76], [77], [78, 67], [78, 90], [80], [80, 69], [80, 79], [82], [83, 80], [90]]
/-- All names, each once, in order. -/
def nAll : List (List UInt8) := [[65], [65, 70], [65, 70, 39], [66], [66, 67], [67], [68], [68, 69], [69], [72], [72, 76], [73], [73, 88], [73, 88, 72], [73, 88, 76], [73, 89], [73, 89, 72], [73, 89, 76], [76], [77], [78, 67], [78, 90], [80], [80, 69], [80, 79], [82], [83, 80], [90]]
theorem nOps_len : nOps.length = 29 := by decide +kernel
theorem nTexts_len : nTexts.length = 29 := by unfold nTexts texts; rw [List.length_map, List.length_map, nOps_len]
theorem nPerm : nTexts.Perm nSorted := by
  have h : nTexts.isPerm nSorted = true := by decide +kernel
  exact List.isPerm_iff.1 h
theorem nPair : nSorted.Pairwise fun x y => decide (x ≤ y) = true := by decide +kernel
theorem nSort : (nTexts.mergeSort fun x y => decide (x ≤ y)) = nSorted :=
  (Go.mergeSort_of_perm nPerm).trans (List.mergeSort_of_pairwise nPair)
theorem nCompact : Lib.compact nSorted = nAll := by decide +kernel

theorem nAll_bears : ∀ (i : Fin 5) (j : Fin 9), (nm (kindAt i.val) j.val).toList.isEmpty = false → (nm (kindAt i.val) j.val).data.toList ∈ nAll := by decide +kernel
theorem nAll_borne : ∀ x ∈ nAll, ∃ (i : Fin 5) (j : Fin 9), (nm (kindAt i.val) j.val).toList.isEmpty = false ∧ (nm (kindAt i.val) j.val).data.toList = x := by decide +kernel

/-- The names, as strings. -/
def nNames : List ByteArray := nAll.map fun x => ⟨x.toArray⟩
theorem nNames_mem (s : ByteArray) : s ∈ nNames ↔ s.data.toList ∈ nAll := by
  unfold nNames
  rw [List.mem_map]
  constructor
  · rintro ⟨x, hx, rfl⟩; simpa using hx
  · intro h; exact ⟨_, h, ba_ext (by simp)⟩
/-- A name in capitals is among all names just where it denotes an operand. -/
theorem names_named (s : ByteArray) : Lib.containsS nNames (upper s) = decide (0 < (namedL s).length) := by
  by_cases h : (upper s).data.toList ∈ nAll
  · rw [(Lib.containsS_iff _ _).2 ((nNames_mem _).2 h), eq_comm, decide_eq_true_eq]
    obtain ⟨i, j, h1, h2⟩ := nAll_borne _ h
    have : (kindAt i.val, j.val) ∈ namedL s := mem_wlist.2 ⟨i.val, i.isLt, rfl, j.isLt, h1, by rw [beq_iff_eq, ByteArray.toList_eq, ByteArray.toList_eq, h2]⟩
    exact List.length_pos_of_mem this
  · have hc : Lib.containsS nNames (upper s) = false := by
      rw [← Bool.not_eq_true]; exact fun hh => h ((nNames_mem _).1 ((Lib.containsS_iff _ _).1 hh))
    rw [hc, eq_comm, decide_eq_false_iff_not]
    intro hp
    apply h
    obtain ⟨x, hx⟩ := List.exists_mem_of_length_pos hp
    obtain ⟨j, hj, h1, h2, h3, h4⟩ := mem_wlist.1 hx
    have e : (nm (kindAt j) x.2).toList = (upper s).toList := by simpa using h4
    rw [ByteArray.toList_eq, ByteArray.toList_eq] at e
    rw [← e]
    exact nAll_bears ⟨j, hj⟩ ⟨x.2, h2⟩ h3
end Go.Proofs.YtocgjpijjghiiaaDoor

