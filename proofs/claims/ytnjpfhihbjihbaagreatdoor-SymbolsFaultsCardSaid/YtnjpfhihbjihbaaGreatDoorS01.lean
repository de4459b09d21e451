/- Joined texts: Base, Row, RowOf, OpenRows. -/
import Derived.Test.YtnjpfhihbjihbaaGreatDoorProg
import Derived.BigQuiet
import Derived.ChangeSame
import Derived.Deep.Slices
import Derived.Deep.Strs
import Derived.Laws.EntriesVeiled
import Derived.Lib.Hide
import Derived.Lib.QuietBelow
import Derived.Sort.EncStr
import Derived.WalkKit
import Derived.WalkLawsBesides
import Derived.WalkSpells
import Derived.WideShapes
/- Small laws for worlds behind a call that has laid blocks: 'gw w p' is w with some blocks laid behind it and some draws made. (Written by wip/gen_base.py.) -/
namespace Go.Proofs.YtnjpfhihbjihbaaGreatDoor
open Go.RowKit Go.Sort

/-- w with blocks laid and draws made. -/
def gw (w : World) (p : Regrown) : World := grow (redrawn w p.d) p.os

theorem gw_of_below {w w' : World} (h : Below w.heap.size w w') : ∃ p : Regrown, w' = gw w p := regrown_of_below h
theorem below_gw (w : World) (p : Regrown) : Below w.heap.size w (gw w p) := below_regrown w p.d p.os
theorem below_gw' {B : Nat} {a w : World} (h : Below B a w) (hB : B ≤ w.heap.size) (p : Regrown) : Below B a (gw w p) := h.trans ((below_gw w p).mono hB)
@[go_sem] theorem gw_size (w : World) (p : Regrown) : (gw w p).heap.size = w.heap.size + p.os.size := by simp [gw, redrawn]
@[go_sem] theorem gw_cell (w : World) (p : Regrown) (n i : Nat) (h : n < w.heap.size) : (gw w p).cell? ⟨n, i, none⟩ = w.cell? ⟨n, i, none⟩ := (below_gw w p).cell (p := ⟨n, i, none⟩) h
@[go_sem] theorem gw_frozen (w : World) (p : Regrown) (n i : Nat) (h : n < w.heap.size) : (gw w p).frozen? ⟨n, i, none⟩ = w.frozen? ⟨n, i, none⟩ := (below_gw w p).frozen (p := ⟨n, i, none⟩) h
@[go_sem] theorem gw_setCell (w : World) (p : Regrown) (n i : Nat) (v : Value) (h : n < w.heap.size) : (gw w p).setCell ⟨n, i, none⟩ v = gw (w.setCell ⟨n, i, none⟩ v) p := by
  simp only [gw, grow, redrawn, World.setCell, modify_append_left _ _ _ _ h]
@[go_sem] theorem gw_drew_in (w : World) (p : Regrown) : gw w.drew p = gw w p := rfl
theorem gw_gw (w : World) (p q : Regrown) : gw (gw w p) q = gw w ⟨q.d, p.os ++ q.os⟩ := by
  simp only [gw, grow, redrawn, Array.append_assoc]
theorem gw_drew_gw (w : World) (p q : Regrown) : gw (gw w p).drew q = gw w ⟨q.d, p.os ++ q.os⟩ := by rw [gw_drew_in, gw_gw]
theorem addr_add (b o j : Nat) : (⟨b, o, none⟩ : Addr).add j = ⟨b, o + j, none⟩ := by
  unfold Addr.add
  split
  · rename_i h; subst h; rfl
  · rfl
@[go_sem] theorem ltP21 (a x2 : Nat) : (a < a + 1 + x2) = True := by simp; omega
@[go_sem] theorem neP21 (a x2 : Nat) : (a = a + 1 + x2) = False := by simp; try omega
@[go_sem] theorem neQ21 (a x2 : Nat) : (a + 1 + x2 = a) = False := by simp; try omega
@[go_sem] theorem ltP22 (a x1 : Nat) : (a < a + x1 + 1) = True := by simp; omega
@[go_sem] theorem neP22 (a x1 : Nat) : (a = a + x1 + 1) = False := by simp; try omega
@[go_sem] theorem neQ22 (a x1 : Nat) : (a + x1 + 1 = a) = False := by simp; try omega
@[go_sem] theorem ltP31 (a x2 x3 : Nat) : (a < a + 1 + x2 + x3) = True := by simp; omega
@[go_sem] theorem neP31 (a x2 x3 : Nat) : (a = a + 1 + x2 + x3) = False := by simp; try omega
@[go_sem] theorem neQ31 (a x2 x3 : Nat) : (a + 1 + x2 + x3 = a) = False := by simp; try omega
@[go_sem] theorem ltP32 (a x1 x3 : Nat) : (a < a + x1 + 1 + x3) = True := by simp; omega
@[go_sem] theorem neP32 (a x1 x3 : Nat) : (a = a + x1 + 1 + x3) = False := by simp; try omega
@[go_sem] theorem neQ32 (a x1 x3 : Nat) : (a + x1 + 1 + x3 = a) = False := by simp; try omega
@[go_sem] theorem ltP33 (a x1 x2 : Nat) : (a < a + x1 + x2 + 1) = True := by simp; omega
@[go_sem] theorem neP33 (a x1 x2 : Nat) : (a = a + x1 + x2 + 1) = False := by simp; try omega
@[go_sem] theorem neQ33 (a x1 x2 : Nat) : (a + x1 + x2 + 1 = a) = False := by simp; try omega
@[go_sem] theorem ltP41 (a x2 x3 x4 : Nat) : (a < a + 1 + x2 + x3 + x4) = True := by simp; omega
@[go_sem] theorem neP41 (a x2 x3 x4 : Nat) : (a = a + 1 + x2 + x3 + x4) = False := by simp; try omega
@[go_sem] theorem neQ41 (a x2 x3 x4 : Nat) : (a + 1 + x2 + x3 + x4 = a) = False := by simp; try omega
@[go_sem] theorem ltP42 (a x1 x3 x4 : Nat) : (a < a + x1 + 1 + x3 + x4) = True := by simp; omega
@[go_sem] theorem neP42 (a x1 x3 x4 : Nat) : (a = a + x1 + 1 + x3 + x4) = False := by simp; try omega
@[go_sem] theorem neQ42 (a x1 x3 x4 : Nat) : (a + x1 + 1 + x3 + x4 = a) = False := by simp; try omega
@[go_sem] theorem ltP43 (a x1 x2 x4 : Nat) : (a < a + x1 + x2 + 1 + x4) = True := by simp; omega
@[go_sem] theorem neP43 (a x1 x2 x4 : Nat) : (a = a + x1 + x2 + 1 + x4) = False := by simp; try omega
@[go_sem] theorem neQ43 (a x1 x2 x4 : Nat) : (a + x1 + x2 + 1 + x4 = a) = False := by simp; try omega
@[go_sem] theorem ltP44 (a x1 x2 x3 : Nat) : (a < a + x1 + x2 + x3 + 1) = True := by simp; omega
@[go_sem] theorem neP44 (a x1 x2 x3 : Nat) : (a = a + x1 + x2 + x3 + 1) = False := by simp; try omega
@[go_sem] theorem neQ44 (a x1 x2 x3 : Nat) : (a + x1 + x2 + x3 + 1 = a) = False := by simp; try omega
@[go_sem] theorem ltP51 (a x2 x3 x4 x5 : Nat) : (a < a + 1 + x2 + x3 + x4 + x5) = True := by simp; omega
@[go_sem] theorem neP51 (a x2 x3 x4 x5 : Nat) : (a = a + 1 + x2 + x3 + x4 + x5) = False := by simp; try omega
@[go_sem] theorem neQ51 (a x2 x3 x4 x5 : Nat) : (a + 1 + x2 + x3 + x4 + x5 = a) = False := by simp; try omega
@[go_sem] theorem ltP52 (a x1 x3 x4 x5 : Nat) : (a < a + x1 + 1 + x3 + x4 + x5) = True := by simp; omega
@[go_sem] theorem neP52 (a x1 x3 x4 x5 : Nat) : (a = a + x1 + 1 + x3 + x4 + x5) = False := by simp; try omega
@[go_sem] theorem neQ52 (a x1 x3 x4 x5 : Nat) : (a + x1 + 1 + x3 + x4 + x5 = a) = False := by simp; try omega
@[go_sem] theorem ltP53 (a x1 x2 x4 x5 : Nat) : (a < a + x1 + x2 + 1 + x4 + x5) = True := by simp; omega
@[go_sem] theorem neP53 (a x1 x2 x4 x5 : Nat) : (a = a + x1 + x2 + 1 + x4 + x5) = False := by simp; try omega
@[go_sem] theorem neQ53 (a x1 x2 x4 x5 : Nat) : (a + x1 + x2 + 1 + x4 + x5 = a) = False := by simp; try omega
@[go_sem] theorem ltP54 (a x1 x2 x3 x5 : Nat) : (a < a + x1 + x2 + x3 + 1 + x5) = True := by simp; omega
@[go_sem] theorem neP54 (a x1 x2 x3 x5 : Nat) : (a = a + x1 + x2 + x3 + 1 + x5) = False := by simp; try omega
@[go_sem] theorem neQ54 (a x1 x2 x3 x5 : Nat) : (a + x1 + x2 + x3 + 1 + x5 = a) = False := by simp; try omega
@[go_sem] theorem ltP55 (a x1 x2 x3 x4 : Nat) : (a < a + x1 + x2 + x3 + x4 + 1) = True := by simp; omega
@[go_sem] theorem neP55 (a x1 x2 x3 x4 : Nat) : (a = a + x1 + x2 + x3 + x4 + 1) = False := by simp; try omega
@[go_sem] theorem neQ55 (a x1 x2 x3 x4 : Nat) : (a + x1 + x2 + x3 + x4 + 1 = a) = False := by simp; try omega
@[go_sem] theorem ltP61 (a x2 x3 x4 x5 x6 : Nat) : (a < a + 1 + x2 + x3 + x4 + x5 + x6) = True := by simp; omega
@[go_sem] theorem neP61 (a x2 x3 x4 x5 x6 : Nat) : (a = a + 1 + x2 + x3 + x4 + x5 + x6) = False := by simp; try omega
@[go_sem] theorem neQ61 (a x2 x3 x4 x5 x6 : Nat) : (a + 1 + x2 + x3 + x4 + x5 + x6 = a) = False := by simp; try omega
@[go_sem] theorem ltP62 (a x1 x3 x4 x5 x6 : Nat) : (a < a + x1 + 1 + x3 + x4 + x5 + x6) = True := by simp; omega
@[go_sem] theorem neP62 (a x1 x3 x4 x5 x6 : Nat) : (a = a + x1 + 1 + x3 + x4 + x5 + x6) = False := by simp; try omega
@[go_sem] theorem neQ62 (a x1 x3 x4 x5 x6 : Nat) : (a + x1 + 1 + x3 + x4 + x5 + x6 = a) = False := by simp; try omega
@[go_sem] theorem ltP63 (a x1 x2 x4 x5 x6 : Nat) : (a < a + x1 + x2 + 1 + x4 + x5 + x6) = True := by simp; omega
@[go_sem] theorem neP63 (a x1 x2 x4 x5 x6 : Nat) : (a = a + x1 + x2 + 1 + x4 + x5 + x6) = False := by simp; try omega
@[go_sem] theorem neQ63 (a x1 x2 x4 x5 x6 : Nat) : (a + x1 + x2 + 1 + x4 + x5 + x6 = a) = False := by simp; try omega
@[go_sem] theorem ltP64 (a x1 x2 x3 x5 x6 : Nat) : (a < a + x1 + x2 + x3 + 1 + x5 + x6) = True := by simp; omega
@[go_sem] theorem neP64 (a x1 x2 x3 x5 x6 : Nat) : (a = a + x1 + x2 + x3 + 1 + x5 + x6) = False := by simp; try omega
@[go_sem] theorem neQ64 (a x1 x2 x3 x5 x6 : Nat) : (a + x1 + x2 + x3 + 1 + x5 + x6 = a) = False := by simp; try omega
@[go_sem] theorem ltP65 (a x1 x2 x3 x4 x6 : Nat) : (a < a + x1 + x2 + x3 + x4 + 1 + x6) = True := by simp; omega
@[go_sem] theorem neP65 (a x1 x2 x3 x4 x6 : Nat) : (a = a + x1 + x2 + x3 + x4 + 1 + x6) = False := by simp; try omega
@[go_sem] theorem neQ65 (a x1 x2 x3 x4 x6 : Nat) : (a + x1 + x2 + x3 + x4 + 1 + x6 = a) = False := by simp; try omega
@[go_sem] theorem ltP66 (a x1 x2 x3 x4 x5 : Nat) : (a < a + x1 + x2 + x3 + x4 + x5 + 1) = True := by simp; omega
@[go_sem] theorem neP66 (a x1 x2 x3 x4 x5 : Nat) : (a = a + x1 + x2 + x3 + x4 + x5 + 1) = False := by simp; try omega
@[go_sem] theorem neQ66 (a x1 x2 x3 x4 x5 : Nat) : (a + x1 + x2 + x3 + x4 + x5 + 1 = a) = False := by simp; try omega
@[go_sem] theorem ltP71 (a x2 x3 x4 x5 x6 x7 : Nat) : (a < a + 1 + x2 + x3 + x4 + x5 + x6 + x7) = True := by simp; omega
@[go_sem] theorem neP71 (a x2 x3 x4 x5 x6 x7 : Nat) : (a = a + 1 + x2 + x3 + x4 + x5 + x6 + x7) = False := by simp; try omega
@[go_sem] theorem neQ71 (a x2 x3 x4 x5 x6 x7 : Nat) : (a + 1 + x2 + x3 + x4 + x5 + x6 + x7 = a) = False := by simp; try omega
@[go_sem] theorem ltP72 (a x1 x3 x4 x5 x6 x7 : Nat) : (a < a + x1 + 1 + x3 + x4 + x5 + x6 + x7) = True := by simp; omega
@[go_sem] theorem neP72 (a x1 x3 x4 x5 x6 x7 : Nat) : (a = a + x1 + 1 + x3 + x4 + x5 + x6 + x7) = False := by simp; try omega
@[go_sem] theorem neQ72 (a x1 x3 x4 x5 x6 x7 : Nat) : (a + x1 + 1 + x3 + x4 + x5 + x6 + x7 = a) = False := by simp; try omega
@[go_sem] theorem ltP73 (a x1 x2 x4 x5 x6 x7 : Nat) : (a < a + x1 + x2 + 1 + x4 + x5 + x6 + x7) = True := by simp; omega
@[go_sem] theorem neP73 (a x1 x2 x4 x5 x6 x7 : Nat) : (a = a + x1 + x2 + 1 + x4 + x5 + x6 + x7) = False := by simp; try omega
@[go_sem] theorem neQ73 (a x1 x2 x4 x5 x6 x7 : Nat) : (a + x1 + x2 + 1 + x4 + x5 + x6 + x7 = a) = False := by simp; try omega
@[go_sem] theorem ltP74 (a x1 x2 x3 x5 x6 x7 : Nat) : (a < a + x1 + x2 + x3 + 1 + x5 + x6 + x7) = True := by simp; omega
@[go_sem] theorem neP74 (a x1 x2 x3 x5 x6 x7 : Nat) : (a = a + x1 + x2 + x3 + 1 + x5 + x6 + x7) = False := by simp; try omega
@[go_sem] theorem neQ74 (a x1 x2 x3 x5 x6 x7 : Nat) : (a + x1 + x2 + x3 + 1 + x5 + x6 + x7 = a) = False := by simp; try omega
@[go_sem] theorem ltP75 (a x1 x2 x3 x4 x6 x7 : Nat) : (a < a + x1 + x2 + x3 + x4 + 1 + x6 + x7) = True := by simp; omega
@[go_sem] theorem neP75 (a x1 x2 x3 x4 x6 x7 : Nat) : (a = a + x1 + x2 + x3 + x4 + 1 + x6 + x7) = False := by simp; try omega
@[go_sem] theorem neQ75 (a x1 x2 x3 x4 x6 x7 : Nat) : (a + x1 + x2 + x3 + x4 + 1 + x6 + x7 = a) = False := by simp; try omega
@[go_sem] theorem ltP76 (a x1 x2 x3 x4 x5 x7 : Nat) : (a < a + x1 + x2 + x3 + x4 + x5 + 1 + x7) = True := by simp; omega
@[go_sem] theorem neP76 (a x1 x2 x3 x4 x5 x7 : Nat) : (a = a + x1 + x2 + x3 + x4 + x5 + 1 + x7) = False := by simp; try omega
@[go_sem] theorem neQ76 (a x1 x2 x3 x4 x5 x7 : Nat) : (a + x1 + x2 + x3 + x4 + x5 + 1 + x7 = a) = False := by simp; try omega
@[go_sem] theorem ltP77 (a x1 x2 x3 x4 x5 x6 : Nat) : (a < a + x1 + x2 + x3 + x4 + x5 + x6 + 1) = True := by simp; omega
@[go_sem] theorem neP77 (a x1 x2 x3 x4 x5 x6 : Nat) : (a = a + x1 + x2 + x3 + x4 + x5 + x6 + 1) = False := by simp; try omega
@[go_sem] theorem neQ77 (a x1 x2 x3 x4 x5 x6 : Nat) : (a + x1 + x2 + x3 + x4 + x5 + x6 + 1 = a) = False := by simp; try omega
@[go_sem] theorem ltP81 (a x2 x3 x4 x5 x6 x7 x8 : Nat) : (a < a + 1 + x2 + x3 + x4 + x5 + x6 + x7 + x8) = True := by simp; omega
@[go_sem] theorem neP81 (a x2 x3 x4 x5 x6 x7 x8 : Nat) : (a = a + 1 + x2 + x3 + x4 + x5 + x6 + x7 + x8) = False := by simp; try omega
@[go_sem] theorem neQ81 (a x2 x3 x4 x5 x6 x7 x8 : Nat) : (a + 1 + x2 + x3 + x4 + x5 + x6 + x7 + x8 = a) = False := by simp; try omega
@[go_sem] theorem ltP82 (a x1 x3 x4 x5 x6 x7 x8 : Nat) : (a < a + x1 + 1 + x3 + x4 + x5 + x6 + x7 + x8) = True := by simp; omega
@[go_sem] theorem neP82 (a x1 x3 x4 x5 x6 x7 x8 : Nat) : (a = a + x1 + 1 + x3 + x4 + x5 + x6 + x7 + x8) = False := by simp; try omega
@[go_sem] theorem neQ82 (a x1 x3 x4 x5 x6 x7 x8 : Nat) : (a + x1 + 1 + x3 + x4 + x5 + x6 + x7 + x8 = a) = False := by simp; try omega
@[go_sem] theorem ltP83 (a x1 x2 x4 x5 x6 x7 x8 : Nat) : (a < a + x1 + x2 + 1 + x4 + x5 + x6 + x7 + x8) = True := by simp; omega
@[go_sem] theorem neP83 (a x1 x2 x4 x5 x6 x7 x8 : Nat) : (a = a + x1 + x2 + 1 + x4 + x5 + x6 + x7 + x8) = False := by simp; try omega
@[go_sem] theorem neQ83 (a x1 x2 x4 x5 x6 x7 x8 : Nat) : (a + x1 + x2 + 1 + x4 + x5 + x6 + x7 + x8 = a) = False := by simp; try omega
@[go_sem] theorem ltP84 (a x1 x2 x3 x5 x6 x7 x8 : Nat) : (a < a + x1 + x2 + x3 + 1 + x5 + x6 + x7 + x8) = True := by simp; omega
@[go_sem] theorem neP84 (a x1 x2 x3 x5 x6 x7 x8 : Nat) : (a = a + x1 + x2 + x3 + 1 + x5 + x6 + x7 + x8) = False := by simp; try omega
@[go_sem] theorem neQ84 (a x1 x2 x3 x5 x6 x7 x8 : Nat) : (a + x1 + x2 + x3 + 1 + x5 + x6 + x7 + x8 = a) = False := by simp; try omega
@[go_sem] theorem ltP85 (a x1 x2 x3 x4 x6 x7 x8 : Nat) : (a < a + x1 + x2 + x3 + x4 + 1 + x6 + x7 + x8) = True := by simp; omega
@[go_sem] theorem neP85 (a x1 x2 x3 x4 x6 x7 x8 : Nat) : (a = a + x1 + x2 + x3 + x4 + 1 + x6 + x7 + x8) = False := by simp; try omega
@[go_sem] theorem neQ85 (a x1 x2 x3 x4 x6 x7 x8 : Nat) : (a + x1 + x2 + x3 + x4 + 1 + x6 + x7 + x8 = a) = False := by simp; try omega
@[go_sem] theorem ltP86 (a x1 x2 x3 x4 x5 x7 x8 : Nat) : (a < a + x1 + x2 + x3 + x4 + x5 + 1 + x7 + x8) = True := by simp; omega
@[go_sem] theorem neP86 (a x1 x2 x3 x4 x5 x7 x8 : Nat) : (a = a + x1 + x2 + x3 + x4 + x5 + 1 + x7 + x8) = False := by simp; try omega
@[go_sem] theorem neQ86 (a x1 x2 x3 x4 x5 x7 x8 : Nat) : (a + x1 + x2 + x3 + x4 + x5 + 1 + x7 + x8 = a) = False := by simp; try omega
@[go_sem] theorem ltP87 (a x1 x2 x3 x4 x5 x6 x8 : Nat) : (a < a + x1 + x2 + x3 + x4 + x5 + x6 + 1 + x8) = True := by simp; omega
@[go_sem] theorem neP87 (a x1 x2 x3 x4 x5 x6 x8 : Nat) : (a = a + x1 + x2 + x3 + x4 + x5 + x6 + 1 + x8) = False := by simp; try omega
@[go_sem] theorem neQ87 (a x1 x2 x3 x4 x5 x6 x8 : Nat) : (a + x1 + x2 + x3 + x4 + x5 + x6 + 1 + x8 = a) = False := by simp; try omega
@[go_sem] theorem ltP88 (a x1 x2 x3 x4 x5 x6 x7 : Nat) : (a < a + x1 + x2 + x3 + x4 + x5 + x6 + x7 + 1) = True := by simp; omega
@[go_sem] theorem neP88 (a x1 x2 x3 x4 x5 x6 x7 : Nat) : (a = a + x1 + x2 + x3 + x4 + x5 + x6 + x7 + 1) = False := by simp; try omega
@[go_sem] theorem neQ88 (a x1 x2 x3 x4 x5 x6 x7 : Nat) : (a + x1 + x2 + x3 + x4 + x5 + x6 + x7 + 1 = a) = False := by simp; try omega
@[go_sem] theorem ltP91 (a x2 x3 x4 x5 x6 x7 x8 x9 : Nat) : (a < a + 1 + x2 + x3 + x4 + x5 + x6 + x7 + x8 + x9) = True := by simp; omega
@[go_sem] theorem neP91 (a x2 x3 x4 x5 x6 x7 x8 x9 : Nat) : (a = a + 1 + x2 + x3 + x4 + x5 + x6 + x7 + x8 + x9) = False := by simp; try omega
@[go_sem] theorem neQ91 (a x2 x3 x4 x5 x6 x7 x8 x9 : Nat) : (a + 1 + x2 + x3 + x4 + x5 + x6 + x7 + x8 + x9 = a) = False := by simp; try omega
@[go_sem] theorem ltP92 (a x1 x3 x4 x5 x6 x7 x8 x9 : Nat) : (a < a + x1 + 1 + x3 + x4 + x5 + x6 + x7 + x8 + x9) = True := by simp; omega
@[go_sem] theorem neP92 (a x1 x3 x4 x5 x6 x7 x8 x9 : Nat) : (a = a + x1 + 1 + x3 + x4 + x5 + x6 + x7 + x8 + x9) = False := by simp; try omega
@[go_sem] theorem neQ92 (a x1 x3 x4 x5 x6 x7 x8 x9 : Nat) : (a + x1 + 1 + x3 + x4 + x5 + x6 + x7 + x8 + x9 = a) = False := by simp; try omega
@[go_sem] theorem ltP93 (a x1 x2 x4 x5 x6 x7 x8 x9 : Nat) : (a < a + x1 + x2 + 1 + x4 + x5 + x6 + x7 + x8 + x9) = True := by simp; omega
@[go_sem] theorem neP93 (a x1 x2 x4 x5 x6 x7 x8 x9 : Nat) : (a = a + x1 + x2 + 1 + x4 + x5 + x6 + x7 + x8 + x9) = False := by simp; try omega
@[go_sem] theorem neQ93 (a x1 x2 x4 x5 x6 x7 x8 x9 : Nat) : (a + x1 + x2 + 1 + x4 + x5 + x6 + x7 + x8 + x9 = a) = False := by simp; try omega
@[go_sem] theorem ltP94 (a x1 x2 x3 x5 x6 x7 x8 x9 : Nat) : (a < a + x1 + x2 + x3 + 1 + x5 + x6 + x7 + x8 + x9) = True := by simp; omega
@[go_sem] theorem neP94 (a x1 x2 x3 x5 x6 x7 x8 x9 : Nat) : (a = a + x1 + x2 + x3 + 1 + x5 + x6 + x7 + x8 + x9) = False := by simp; try omega
@[go_sem] theorem neQ94 (a x1 x2 x3 x5 x6 x7 x8 x9 : Nat) : (a + x1 + x2 + x3 + 1 + x5 + x6 + x7 + x8 + x9 = a) = False := by simp; try omega
@[go_sem] theorem ltP95 (a x1 x2 x3 x4 x6 x7 x8 x9 : Nat) : (a < a + x1 + x2 + x3 + x4 + 1 + x6 + x7 + x8 + x9) = True := by simp; omega
@[go_sem] theorem neP95 (a x1 x2 x3 x4 x6 x7 x8 x9 : Nat) : (a = a + x1 + x2 + x3 + x4 + 1 + x6 + x7 + x8 + x9) = False := by simp; try omega
@[go_sem] theorem neQ95 (a x1 x2 x3 x4 x6 x7 x8 x9 : Nat) : (a + x1 + x2 + x3 + x4 + 1 + x6 + x7 + x8 + x9 = a) = False := by simp; try omega
@[go_sem] theorem ltP96 (a x1 x2 x3 x4 x5 x7 x8 x9 : Nat) : (a < a + x1 + x2 + x3 + x4 + x5 + 1 + x7 + x8 + x9) = True := by simp; omega
@[go_sem] theorem neP96 (a x1 x2 x3 x4 x5 x7 x8 x9 : Nat) : (a = a + x1 + x2 + x3 + x4 + x5 + 1 + x7 + x8 + x9) = False := by simp; try omega
@[go_sem] theorem neQ96 (a x1 x2 x3 x4 x5 x7 x8 x9 : Nat) : (a + x1 + x2 + x3 + x4 + x5 + 1 + x7 + x8 + x9 = a) = False := by simp; try omega
@[go_sem] theorem ltP97 (a x1 x2 x3 x4 x5 x6 x8 x9 : Nat) : (a < a + x1 + x2 + x3 + x4 + x5 + x6 + 1 + x8 + x9) = True := by simp; omega
@[go_sem] theorem neP97 (a x1 x2 x3 x4 x5 x6 x8 x9 : Nat) : (a = a + x1 + x2 + x3 + x4 + x5 + x6 + 1 + x8 + x9) = False := by simp; try omega
@[go_sem] theorem neQ97 (a x1 x2 x3 x4 x5 x6 x8 x9 : Nat) : (a + x1 + x2 + x3 + x4 + x5 + x6 + 1 + x8 + x9 = a) = False := by simp; try omega
@[go_sem] theorem ltP98 (a x1 x2 x3 x4 x5 x6 x7 x9 : Nat) : (a < a + x1 + x2 + x3 + x4 + x5 + x6 + x7 + 1 + x9) = True := by simp; omega
@[go_sem] theorem neP98 (a x1 x2 x3 x4 x5 x6 x7 x9 : Nat) : (a = a + x1 + x2 + x3 + x4 + x5 + x6 + x7 + 1 + x9) = False := by simp; try omega
@[go_sem] theorem neQ98 (a x1 x2 x3 x4 x5 x6 x7 x9 : Nat) : (a + x1 + x2 + x3 + x4 + x5 + x6 + x7 + 1 + x9 = a) = False := by simp; try omega
@[go_sem] theorem ltP99 (a x1 x2 x3 x4 x5 x6 x7 x8 : Nat) : (a < a + x1 + x2 + x3 + x4 + x5 + x6 + x7 + x8 + 1) = True := by simp; omega
@[go_sem] theorem neP99 (a x1 x2 x3 x4 x5 x6 x7 x8 : Nat) : (a = a + x1 + x2 + x3 + x4 + x5 + x6 + x7 + x8 + 1) = False := by simp; try omega
@[go_sem] theorem neQ99 (a x1 x2 x3 x4 x5 x6 x7 x8 : Nat) : (a + x1 + x2 + x3 + x4 + x5 + x6 + x7 + x8 + 1 = a) = False := by simp; try omega

/-- A region that draws its order, whose operations read and whose callees end in 'Below': one walk in the order of the text. -/
theorem wp_region_gw {P : Program} {id : Nat} {Q : Exit → Act → World → Prop} {a : Act} {w : World} {l : List Oper} (hm : P.follows .mixedOrders = true) (hB : Region.lexB .any l.toArray = true)
    (h : wpQuiet P l.toArray (fun w' => ∃ p : Regrown, w' = gw w p) (fun a' => ∀ w', (∃ p : Regrown, w' = gw w p) → Q .normal a' w') l a) : (Code.region id l.toArray true).wp P Q a w :=
  wp_region_quiet_below hm hB h
/-- A callee's contract in such a region. -/
theorem gw_quiet {P : Program} {f : FuncId} {args : Array Value} {w : World} {p : Regrown} {v : Value}
    (h : Calls P f args (gw w p) fun e w' => e = .returned v ∧ Below (gw w p).heap.size (gw w p) w') : Calls P f args (gw w p) fun e w'' => e = .returned v ∧ ∃ q : Regrown, w'' = gw w q :=
  Calls.regrown_of h
theorem gw_quiet_same {P : Program} {f : FuncId} {args : Array Value} {w : World} {p : Regrown} {v : Value}
    (h : Calls P f args (gw w p) fun e w' => e = .returned v ∧ gw w p = w') : Calls P f args (gw w p) fun e w'' => e = .returned v ∧ ∃ q : Regrown, w'' = gw w q :=
  h.mono fun _ _ ⟨he, hb⟩ => ⟨he, p, hb.symm⟩
end Go.Proofs.YtnjpfhihbjihbaaGreatDoor

/- Slices as rows of cells: what a slice value reads as. -/
namespace Go.Proofs.YtnjpfhihbjihbaaGreatDoor
open Go.RowKit Go.Sort

/-- The slice value v, of n elements, reads as the cells xs (all of them, element by element). -/
def Row (w : World) (v : Value) (n : Nat) (xs : List Value) : Prop :=
  ∃ a cap, v = .slice a n cap ∧ n ≤ cap ∧ (xs ≠ [] → ∃ g o, a = some ⟨g, o, none⟩ ∧ g < w.heap.size ∧ ∀ j, j < xs.length → w.cell? ⟨g, o + j, none⟩ = xs[j]?)

theorem Row.below {w w' : World} {v : Value} {n : Nat} {xs : List Value} (h : Row w v n xs) (hb : Below w.heap.size w w') : Row w' v n xs := by
  obtain ⟨a, cap, hv, hn, h⟩ := h
  refine ⟨a, cap, hv, hn, fun hx => ?_⟩
  obtain ⟨g, o, ha, hg, hc⟩ := h hx
  exact ⟨g, o, ha, Nat.lt_of_lt_of_le hg hb.size, fun j hj => (hb.cell (p := ⟨g, o + j, none⟩) hg).trans (hc j hj)⟩

theorem Row.nil (w : World) : Row w (.slice none 0 0) 0 [] := ⟨none, 0, rfl, Nat.le_refl _, fun h => absurd rfl h⟩

theorem Row.of_owns {w : World} {base : Nat} {e : TypeId} {size : Nat} {v : Value} {n : Nat} {xs : List Value} (h : w.ownsRow base e size v n xs) : Row w v n xs := by
  obtain ⟨h1, h2⟩ := h
  rcases h2 with ⟨rfl, rfl⟩ | ⟨g, cap, cur, rfl, hg, hh, hn, hcap, hcur, rfl⟩
  · refine ⟨none, 0, rfl, Nat.le_refl _, fun hx => ?_⟩
    rw [Nat.zero_mul] at h1
    exact absurd (List.eq_nil_of_length_eq_zero h1) hx
  · refine ⟨_, cap, rfl, hn, fun hx => ⟨g, 0, rfl, lt_of_block hh, fun j hj => ?_⟩⟩
    simp only [World.cell?, hh, Nat.zero_add]
    rw [h1] at hj
    rw [List.getElem?_take_of_lt hj]
    simp
end Go.Proofs.YtnjpfhihbjihbaaGreatDoor

/- Rows of structs, whatever the struct. -/
namespace Go.Proofs.YtnjpfhihbjihbaaGreatDoor
open Go.RowKit Go.Sort

theorem flat_len {α : Type} (f : α → List Value) (sz : Nat) (hf : ∀ x, (f x).length = sz) (l : List α) : (l.flatMap f).length = l.length * sz := by
  induction l with
  | nil => simp
  | cons a l ih => rw [List.flatMap_cons, List.length_append, hf, ih, List.length_cons, Nat.succ_mul]; omega
theorem flat_get {α : Type} (f : α → List Value) (sz : Nat) (hf : ∀ x, (f x).length = sz) : ∀ (l : List α) (i : Nat) (x : α), l[i]? = some x → ∀ j, j < sz → (l.flatMap f)[i * sz + j]? = (f x)[j]?
  | [], i, x, h, j, hj => by simp at h
  | a :: l, 0, x, h, j, hj => by
    simp at h; subst h
    rw [List.flatMap_cons, Nat.zero_mul, Nat.zero_add, List.getElem?_append_left (by rw [hf]; exact hj)]
  | a :: l, i + 1, x, h, j, hj => by
    have hx : l[i]? = some x := by simpa using h
    rw [List.flatMap_cons, List.getElem?_append_right (by rw [hf, Nat.succ_mul]; omega), hf]
    rw [show (i + 1) * sz + j - sz = i * sz + j by rw [Nat.succ_mul]; omega]
    exact flat_get f sz hf l i x hx j hj
theorem flat_ne {α : Type} (f : α → List Value) (sz : Nat) (hf : ∀ x, (f x).length = sz) (hs : 0 < sz) {l : List α} (h : l ≠ []) : l.flatMap f ≠ [] := fun e => by
  have := flat_len f sz hf l
  rw [e] at this
  rcases l with _ | ⟨a, l⟩
  · exact h rfl
  · simp only [List.length_nil, List.length_cons, Nat.succ_mul] at this; omega
/-- What a row of structs gives. -/
theorem Row.structs {w : World} {v : Value} {α : Type} {l : List α} (f : α → List Value) (sz : Nat) (hf : ∀ x, (f x).length = sz) (hs : 0 < sz) (h : Row w v l.length (l.flatMap f)) :
    ∃ a cap, v = .slice a l.length cap ∧ l.length ≤ cap ∧ (l ≠ [] → ∃ g o, a = some ⟨g, o, none⟩ ∧ g < w.heap.size ∧ ∀ i x, l[i]? = some x → ∀ j, j < sz → w.cell? ⟨g, o + i * sz + j, none⟩ = (f x)[j]?) := by
  obtain ⟨a, cap, hv, hn, h⟩ := h
  refine ⟨a, cap, hv, hn, fun hl => ?_⟩
  obtain ⟨g, o, ha, hg, hc⟩ := h (flat_ne f sz hf hs hl)
  refine ⟨g, o, ha, hg, fun i x hx j hj => ?_⟩
  have hi : i < l.length := (List.getElem?_eq_some_iff.1 hx).1
  have hlt : i * sz + j < (l.flatMap f).length := by
    rw [flat_len f sz hf]
    have := Nat.mul_le_mul_right sz hi
    rw [Nat.succ_mul] at this
    omega
  rw [Nat.add_assoc, hc _ hlt, flat_get f sz hf l i x hx j hj]
/-- A row of strings. -/
theorem Row.strs {w : World} {v : Value} {l : List (List UInt8)} (h : Row w v l.length (l.map Proofs.encStr)) :
    ∃ a cap, v = .slice a l.length cap ∧ l.length ≤ cap ∧ (l ≠ [] → ∃ g o, a = some ⟨g, o, none⟩ ∧ g < w.heap.size ∧ ∀ i x, l[i]? = some x → w.cell? ⟨g, o + i, none⟩ = some (.string ⟨x.toArray⟩)) := by
  obtain ⟨a, cap, hv, hn, h⟩ := h
  refine ⟨a, cap, hv, hn, fun hl => ?_⟩
  obtain ⟨g, o, ha, hg, hc⟩ := h (by simpa using hl)
  refine ⟨g, o, ha, hg, fun i x hx => ?_⟩
  have hi : i < l.length := (List.getElem?_eq_some_iff.1 hx).1
  rw [hc i (by simpa using hi), List.getElem?_map, hx]
  rfl
end Go.Proofs.YtnjpfhihbjihbaaGreatDoor

/- A slice of structs, opened, whatever the struct. -/
namespace Go.Proofs.YtnjpfhihbjihbaaGreatDoor
open Go.RowKit Go.Sort

theorem range_map_len {α : Type} (f : Nat → α) (n : Nat) : ((List.range n).map f).length = n := by simp
set_option maxHeartbeats 400000 in
set_option maxRecDepth 100000 in
theorem open_structs {H α : Type} [Inhabited α] (f : α → List Value) (Q : α → Prop) (sz : Nat) (hf : ∀ x, (f x).length = sz) (hs : 0 < sz) {T E : TypeId} (hT : Tryz.prog.underlying T = some (.slice E)) (hsz : Tryz.prog.cellsOf E = sz)
    {enc : TypeId × Value → H} {W w : World} {r : Reach} {base b0 : Nat} {spare : Nat → Bool} {held : Bool} {v : Value} {d : DataW H} {p : List MemPlace}
    (hel : ∀ (cs : List Value) (n : Nat) (y : DataW H × List MemPlace), cs.length = sz → DataW.trod enc Tryz.prog W base spare held n E cs = some y → ∃ x, cs = f x ∧ Q x)
    (hv : Value.okWide Tryz.prog w r b0 T v) (h : DataW.Trod enc Tryz.prog W base spare held T v d p) : ∃ L : List α, Row W v L.length (L.flatMap f) ∧ L.length ≤ maxLen ∧ ∀ x ∈ L, Q x := by
  obtain ⟨a, len, cap, rfl⟩ := Go.WideShapes.okWide_slice hT hv
  obtain ⟨fuel, hfu⟩ := h
  rcases Deep.open_slice hT hfu with ⟨he, _⟩ | ⟨a', len', cap', m, n, D, Pl, he, hb, hl, hm, hmm, hx, hel2⟩
  · simp [Value.cells] at he
    obtain ⟨rfl, rfl, rfl⟩ := he
    exact ⟨[], Row.nil _, by unfold maxLen; simp, fun x hx => by cases hx⟩
  · simp [Value.cells] at he
    obtain ⟨rfl, rfl, rfl⟩ := he
    have hlm : len ≤ m := by rw [hmm]; split <;> omega
    obtain ⟨g, hfi⟩ := Deep.choose_lt (α := α) (n := len) (p := fun i x => Q x ∧ ∀ j, j < sz → W.cell? ((a'.add (i * sz)).add j) = (f x)[j]?) (fun i hi => by
      obtain ⟨cs', hc1, hc2⟩ := hel2 i (by omega)
      rw [hsz] at hc1
      obtain ⟨_, hlen, hcell⟩ := World.cells?_some hc1
      obtain ⟨x, rfl, hq⟩ := hel cs' _ _ hlen hc2
      refine ⟨x, hq, fun j hj => ?_⟩
      simpa using hcell j (by omega))
    refine ⟨(List.range len).map g, ⟨some a', cap, by rw [range_map_len], by rw [range_map_len]; exact hl, fun hne => ?_⟩, by rw [range_map_len]; omega, fun x hx => ?_⟩
    rotate_left
    · obtain ⟨i, hi, rfl⟩ := List.mem_map.1 hx
      exact (hfi i (by simpa using hi)).1
    obtain ⟨b, o, spot⟩ := a'
    have hpos : 0 < len := by
      rcases Nat.eq_zero_or_pos len with h0 | h0
      · subst h0; exact absurd rfl hne
      · exact h0
    have h0 := (hfi 0 hpos).2 0 hs
    rw [List.getElem?_eq_getElem (by rw [hf]; exact hs)] at h0
    have hspot : spot = none := by simpa [Addr.add] using World.cell?_spot h0
    subst hspot
    have hlt : b < W.heap.size := by
      simp [World.cell?] at h0
      rcases hh : W.heap[b]? with _ | x
      · simp [Addr.add, hh] at h0
      · exact (Array.getElem?_eq_some_iff.1 hh).1
    refine ⟨b, o, rfl, hlt, fun j hj => ?_⟩
    rw [flat_len f sz hf, range_map_len] at hj
    have hd := Nat.div_add_mod j sz
    have hmod := Nat.mod_lt j hs
    have hj3 : j / sz < len := Nat.div_lt_of_lt_mul (by rw [Nat.mul_comm]; exact hj)
    have h1 := (hfi (j / sz) hj3).2 (j % sz) hmod
    have h2 := flat_get f sz hf ((List.range len).map g) (j / sz) (g (j / sz)) (by simp [hj3]) (j % sz) hmod
    rw [Nat.mul_comm] at hd
    rw [hd] at h2
    rw [h2, ← h1, addr_add, addr_add, Nat.add_assoc, hd]
end Go.Proofs.YtnjpfhihbjihbaaGreatDoor
