/- Small laws for worlds behind a call that has laid blocks: 'gw w p' is w with some blocks laid behind it and some draws made. (Written by wip/gen_base.py.) -/
import Derived.Test.YtocgjpijjghiiaaDoorProg
import Derived.WalkKit
import Derived.WalkSpells
import Derived.WalkLawsBesides
import Derived.Laws.EntriesVeiled
import Derived.BigQuiet
import Derived.Lib.Hide
import Derived.Lib.QuietBelow
namespace Go.Proofs.YtocgjpijjghiiaaDoor
open Go.RowKit Go.Sort

/-- w with blocks laid and draws made. -/
def gw (w : World) (p : Regrown) : World := grow (redrawn w p.d) p.os

theorem gw_of_below {w w' : World} (h : Below w.heap.size w w') : ∃ p : Regrown, w' = gw w p := regrown_of_below h
theorem below_gw (w : World) (p : Regrown) : Below w.heap.size w (gw w p) := below_regrown w p.d p.os
theorem below_gw' {B : Nat} {a w : World} (h : Below B a w) (hB : B ≤ w.heap.size) (p : Regrown) : Below B a (gw w p) := h.trans ((below_gw w p).mono hB)
@[go_sem] theorem gw_size (w : World) (p : Regrown) : (gw w p).heap.size = w.heap.size + p.os.size := by simp [gw, redrawn]
@[go_sem] theorem gw_cell (w : World) (p : Regrown) (n i : Nat) (h : n < w.heap.size) : (gw w p).cell? ⟨n, i, none⟩ = w.cell? ⟨n, i, none⟩ := (below_gw w p).cell (p := ⟨n, i, none⟩) h
@[go_sem] theorem gw_frozen (w : World) (p : Regrown) (n i : Nat) (h : n < w.heap.size) : (gw w p).frozen? ⟨n, i, none⟩ = w.frozen? ⟨n, i, none⟩ := (below_gw w p).frozen (p := ⟨n, i, none⟩) h
@[go_sem] theorem gw_setCell (w : World) (p : Regrown) (n i : Nat) (v : Value) (h : n < w.heap.size) : (gw w p).setCell ⟨n, i, none⟩ v = gw (w.setCell ⟨n, i, none⟩ v) p := by
  simp only [gw, grow, redrawn, World.setCell, modify_append_left _ _ _ _ h]
@[go_sem] theorem gw_drew_in (w : World) (p : Regrown) : gw w.drew p = gw w p := rfl
theorem gw_gw (w : World) (p q : Regrown) : gw (gw w p) q = gw w ⟨q.d, p.os ++ q.os⟩ := by
  simp only [gw, grow, redrawn, Array.append_assoc]
theorem gw_drew_gw (w : World) (p q : Regrown) : gw (gw w p).drew q = gw w ⟨q.d, p.os ++ q.os⟩ := by rw [gw_drew_in, gw_gw]
theorem addr_add (b o j : Nat) : (⟨b, o, none⟩ : Addr).add j = ⟨b, o + j, none⟩ := by
  unfold Addr.add
  split
  · rename_i h; subst h; rfl
  · rfl
@[go_sem] theorem ltP21 (a x2 : Nat) : (a < a + 1 + x2) = True := by simp; omega
@[go_sem] theorem neP21 (a x2 : Nat) : (a = a + 1 + x2) = False := by simp; try omega
@[go_sem] theorem neQ21 (a x2 : Nat) : (a + 1 + x2 = a) = False := by simp; try omega
@[go_sem] theorem ltP22 (a x1 : Nat) : (a < a + x1 + 1) = True := by simp; omega
@[go_sem] theorem neP22 (a x1 : Nat) : (a = a + x1 + 1) = False := by simp; try omega
@[go_sem] theorem neQ22 (a x1 : Nat) : (a + x1 + 1 = a) = False := by simp; try omega
@[go_sem] theorem ltP31 (a x2 x3 : Nat) : (a < a + 1 + x2 + x3) = True := by simp; omega
@[go_sem] theorem neP31 (a x2 x3 : Nat) : (a = a + 1 + x2 + x3) = False := by simp; try omega
@[go_sem] theorem neQ31 (a x2 x3 : Nat) : (a + 1 + x2 + x3 = a) = False := by simp; try omega
@[go_sem] theorem ltP32 (a x1 x3 : Nat) : (a < a + x1 + 1 + x3) = True := by simp; omega
@[go_sem] theorem neP32 (a x1 x3 : Nat) : (a = a + x1 + 1 + x3) = False := by simp; try omega
@[go_sem] theorem neQ32 (a x1 x3 : Nat) : (a + x1 + 1 + x3 = a) = False := by simp; try omega
@[go_sem] theorem ltP33 (a x1 x2 : Nat) : (a < a + x1 + x2 + 1) = True := by simp; omega
@[go_sem] theorem neP33 (a x1 x2 : Nat) : (a = a + x1 + x2 + 1) = False := by simp; try omega
@[go_sem] theorem neQ33 (a x1 x2 : Nat) : (a + x1 + x2 + 1 = a) = False := by simp; try omega
@[go_sem] theorem ltP41 (a x2 x3 x4 : Nat) : (a < a + 1 + x2 + x3 + x4) = True := by simp; omega
@[go_sem] theorem neP41 (a x2 x3 x4 : Nat) : (a = a + 1 + x2 + x3 + x4) = False := by simp; try omega
@[go_sem] theorem neQ41 (a x2 x3 x4 : Nat) : (a + 1 + x2 + x3 + x4 = a) = False := by simp; try omega
@[go_sem] theorem ltP42 (a x1 x3 x4 : Nat) : (a < a + x1 + 1 + x3 + x4) = True := by simp; omega
@[go_sem] theorem neP42 (a x1 x3 x4 : Nat) : (a = a + x1 + 1 + x3 + x4) = False := by simp; try omega
@[go_sem] theorem neQ42 (a x1 x3 x4 : Nat) : (a + x1 + 1 + x3 + x4 = a) = False := by simp; try omega
@[go_sem] theorem ltP43 (a x1 x2 x4 : Nat) : (a < a + x1 + x2 + 1 + x4) = True := by simp; omega
@[go_sem] theorem neP43 (a x1 x2 x4 : Nat) : (a = a + x1 + x2 + 1 + x4) = False := by simp; try omega
@[go_sem] theorem neQ43 (a x1 x2 x4 : Nat) : (a + x1 + x2 + 1 + x4 = a) = False := by simp; try omega
@[go_sem] theorem ltP44 (a x1 x2 x3 : Nat) : (a < a + x1 + x2 + x3 + 1) = True := by simp; omega
@[go_sem] theorem neP44 (a x1 x2 x3 : Nat) : (a = a + x1 + x2 + x3 + 1) = False := by simp; try omega
@[go_sem] theorem neQ44 (a x1 x2 x3 : Nat) : (a + x1 + x2 + x3 + 1 = a) = False := by simp; try omega
@[go_sem] theorem ltP51 (a x2 x3 x4 x5 : Nat) : (a < a + 1 + x2 + x3 + x4 + x5) = True := by simp; omega
@[go_sem] theorem neP51 (a x2 x3 x4 x5 : Nat) : (a = a + 1 + x2 + x3 + x4 + x5) = False := by simp; try omega
@[go_sem] theorem neQ51 (a x2 x3 x4 x5 : Nat) : (a + 1 + x2 + x3 + x4 + x5 = a) = False := by simp; try omega
@[go_sem] theorem ltP52 (a x1 x3 x4 x5 : Nat) : (a < a + x1 + 1 + x3 + x4 + x5) = True := by simp; omega
@[go_sem] theorem neP52 (a x1 x3 x4 x5 : Nat) : (a = a + x1 + 1 + x3 + x4 + x5) = False := by simp; try omega
@[go_sem] theorem neQ52 (a x1 x3 x4 x5 : Nat) : (a + x1 + 1 + x3 + x4 + x5 = a) = False := by simp; try omega
@[go_sem] theorem ltP53 (a x1 x2 x4 x5 : Nat) : (a < a + x1 + x2 + 1 + x4 + x5) = True := by simp; omega
@[go_sem] theorem neP53 (a x1 x2 x4 x5 : Nat) : (a = a + x1 + x2 + 1 + x4 + x5) = False := by simp; try omega
@[go_sem] theorem neQ53 (a x1 x2 x4 x5 : Nat) : (a + x1 + x2 + 1 + x4 + x5 = a) = False := by simp; try omega
@[go_sem] theorem ltP54 (a x1 x2 x3 x5 : Nat) : (a < a + x1 + x2 + x3 + 1 + x5) = True := by simp; omega
@[go_sem] theorem neP54 (a x1 x2 x3 x5 : Nat) : (a = a + x1 + x2 + x3 + 1 + x5) = False := by simp; try omega
@[go_sem] theorem neQ54 (a x1 x2 x3 x5 : Nat) : (a + x1 + x2 + x3 + 1 + x5 = a) = False := by simp; try omega
@[go_sem] theorem ltP55 (a x1 x2 x3 x4 : Nat) : (a < a + x1 + x2 + x3 + x4 + 1) = True := by simp; omega
@[go_sem] theorem neP55 (a x1 x2 x3 x4 : Nat) : (a = a + x1 + x2 + x3 + x4 + 1) = False := by simp; try omega
@[go_sem] theorem neQ55 (a x1 x2 x3 x4 : Nat) : (a + x1 + x2 + x3 + x4 + 1 = a) = False := by simp; try omega
@[go_sem] theorem ltP61 (a x2 x3 x4 x5 x6 : Nat) : (a < a + 1 + x2 + x3 + x4 + x5 + x6) = True := by simp; omega
@[go_sem] theorem neP61 (a x2 x3 x4 x5 x6 : Nat) : (a = a + 1 + x2 + x3 + x4 + x5 + x6) = False := by simp; try omega
@[go_sem] theorem neQ61 (a x2 x3 x4 x5 x6 : Nat) : (a + 1 + x2 + x3 + x4 + x5 + x6 = a) = False := by simp; try omega
@[go_sem] theorem ltP62 (a x1 x3 x4 x5 x6 : Nat) : (a < a + x1 + 1 + x3 + x4 + x5 + x6) = True := by simp; omega
@[go_sem] theorem neP62 (a x1 x3 x4 x5 x6 : Nat) : (a = a + x1 + 1 + x3 + x4 + x5 + x6) = False := by simp; try omega
@[go_sem] theorem neQ62 (a x1 x3 x4 x5 x6 : Nat) : (a + x1 + 1 + x3 + x4 + x5 + x6 = a) = False := by simp; try omega
@[go_sem] theorem ltP63 (a x1 x2 x4 x5 x6 : Nat) : (a < a + x1 + x2 + 1 + x4 + x5 + x6) = True := by simp; omega
@[go_sem] theorem neP63 (a x1 x2 x4 x5 x6 : Nat) : (a = a + x1 + x2 + 1 + x4 + x5 + x6) = False := by simp; try omega
@[go_sem] theorem neQ63 (a x1 x2 x4 x5 x6 : Nat) : (a + x1 + x2 + 1 + x4 + x5 + x6 = a) = False := by simp; try omega
@[go_sem] theorem ltP64 (a x1 x2 x3 x5 x6 : Nat) : (a < a + x1 + x2 + x3 + 1 + x5 + x6) = True := by simp; omega
@[go_sem] theorem neP64 (a x1 x2 x3 x5 x6 : Nat) : (a = a + x1 + x2 + x3 + 1 + x5 + x6) = False := by simp; try omega
@[go_sem] theorem neQ64 (a x1 x2 x3 x5 x6 : Nat) : (a + x1 + x2 + x3 + 1 + x5 + x6 = a) = False := by simp; try omega
@[go_sem] theorem ltP65 (a x1 x2 x3 x4 x6 : Nat) : (a < a + x1 + x2 + x3 + x4 + 1 + x6) = True := by simp; omega
@[go_sem] theorem neP65 (a x1 x2 x3 x4 x6 : Nat) : (a = a + x1 + x2 + x3 + x4 + 1 + x6) = False := by simp; try omega
@[go_sem] theorem neQ65 (a x1 x2 x3 x4 x6 : Nat) : (a + x1 + x2 + x3 + x4 + 1 + x6 = a) = False := by simp; try omega
@[go_sem] theorem ltP66 (a x1 x2 x3 x4 x5 : Nat) : (a < a + x1 + x2 + x3 + x4 + x5 + 1) = True := by simp; omega
@[go_sem] theorem neP66 (a x1 x2 x3 x4 x5 : Nat) : (a = a + x1 + x2 + x3 + x4 + x5 + 1) = False := by simp; try omega
@[go_sem] theorem neQ66 (a x1 x2 x3 x4 x5 : Nat) : (a + x1 + x2 + x3 + x4 + x5 + 1 = a) = False := by simp; try omega
@[go_sem] theorem ltP71 (a x2 x3 x4 x5 x6 x7 : Nat) : (a < a + 1 + x2 + x3 + x4 + x5 + x6 + x7) = True := by simp; omega
@[go_sem] theorem neP71 (a x2 x3 x4 x5 x6 x7 : Nat) : (a = a + 1 + x2 + x3 + x4 + x5 + x6 + x7) = False := by simp; try omega
@[go_sem] theorem neQ71 (a x2 x3 x4 x5 x6 x7 : Nat) : (a + 1 + x2 + x3 + x4 + x5 + x6 + x7 = a) = False := by simp; try omega
@[go_sem] theorem ltP72 (a x1 x3 x4 x5 x6 x7 : Nat) : (a < a + x1 + 1 + x3 + x4 + x5 + x6 + x7) = True := by simp; omega
@[go_sem] theorem neP72 (a x1 x3 x4 x5 x6 x7 : Nat) : (a = a + x1 + 1 + x3 + x4 + x5 + x6 + x7) = False := by simp; try omega
@[go_sem] theorem neQ72 (a x1 x3 x4 x5 x6 x7 : Nat) : (a + x1 + 1 + x3 + x4 + x5 + x6 + x7 = a) = False := by simp; try omega
@[go_sem] theorem ltP73 (a x1 x2 x4 x5 x6 x7 : Nat) : (a < a + x1 + x2 + 1 + x4 + x5 + x6 + x7) = True := by simp; omega
@[go_sem] theorem neP73 (a x1 x2 x4 x5 x6 x7 : Nat) : (a = a + x1 + x2 + 1 + x4 + x5 + x6 + x7) = False := by simp; try omega
@[go_sem] theorem neQ73 (a x1 x2 x4 x5 x6 x7 : Nat) : (a + x1 + x2 + 1 + x4 + x5 + x6 + x7 = a) = False := by simp; try omega
@[go_sem] theorem ltP74 (a x1 x2 x3 x5 x6 x7 : Nat) : (a < a + x1 + x2 + x3 + 1 + x5 + x6 + x7) = True := by simp; omega
@[go_sem] theorem neP74 (a x1 x2 x3 x5 x6 x7 : Nat) : (a = a + x1 + x2 + x3 + 1 + x5 + x6 + x7) = False := by simp; try omega
@[go_sem] theorem neQ74 (a x1 x2 x3 x5 x6 x7 : Nat) : (a + x1 + x2 + x3 + 1 + x5 + x6 + x7 = a) = False := by simp; try omega
@[go_sem] theorem ltP75 (a x1 x2 x3 x4 x6 x7 : Nat) : (a < a + x1 + x2 + x3 + x4 + 1 + x6 + x7) = True := by simp; omega
@[go_sem] theorem neP75 (a x1 x2 x3 x4 x6 x7 : Nat) : (a = a + x1 + x2 + x3 + x4 + 1 + x6 + x7) = False := by simp; try omega
@[go_sem] theorem neQ75 (a x1 x2 x3 x4 x6 x7 : Nat) : (a + x1 + x2 + x3 + x4 + 1 + x6 + x7 = a) = False := by simp; try omega
@[go_sem] theorem ltP76 (a x1 x2 x3 x4 x5 x7 : Nat) : (a < a + x1 + x2 + x3 + x4 + x5 + 1 + x7) = True := by simp; omega
@[go_sem] theorem neP76 (a x1 x2 x3 x4 x5 x7 : Nat) : (a = a + x1 + x2 + x3 + x4 + x5 + 1 + x7) = False := by simp; try omega
@[go_sem] theorem neQ76 (a x1 x2 x3 x4 x5 x7 : Nat) : (a + x1 + x2 + x3 + x4 + x5 + 1 + x7 = a) = False := by simp; try omega
@[go_sem] theorem ltP77 (a x1 x2 x3 x4 x5 x6 : Nat) : (a < a + x1 + x2 + x3 + x4 + x5 + x6 + 1) = True := by simp; omega
@[go_sem] theorem neP77 (a x1 x2 x3 x4 x5 x6 : Nat) : (a = a + x1 + x2 + x3 + x4 + x5 + x6 + 1) = False := by simp; try omega
@[go_sem] theorem neQ77 (a x1 x2 x3 x4 x5 x6 : Nat) : (a + x1 + x2 + x3 + x4 + x5 + x6 + 1 = a) = False := by simp; try omega
@[go_sem] theorem ltP81 (a x2 x3 x4 x5 x6 x7 x8 : Nat) : (a < a + 1 + x2 + x3 + x4 + x5 + x6 + x7 + x8) = True := by simp; omega
@[go_sem] theorem neP81 (a x2 x3 x4 x5 x6 x7 x8 : Nat) : (a = a + 1 + x2 + x3 + x4 + x5 + x6 + x7 + x8) = False := by simp; try omega
@[go_sem] theorem neQ81 (a x2 x3 x4 x5 x6 x7 x8 : Nat) : (a + 1 + x2 + x3 + x4 + x5 + x6 + x7 + x8 = a) = False := by simp; try omega
@[go_sem] theorem ltP82 (a x1 x3 x4 x5 x6 x7 x8 : Nat) : (a < a + x1 + 1 + x3 + x4 + x5 + x6 + x7 + x8) = True := by simp; omega
@[go_sem] theorem neP82 (a x1 x3 x4 x5 x6 x7 x8 : Nat) : (a = a + x1 + 1 + x3 + x4 + x5 + x6 + x7 + x8) = False := by simp; try omega
@[go_sem] theorem neQ82 (a x1 x3 x4 x5 x6 x7 x8 : Nat) : (a + x1 + 1 + x3 + x4 + x5 + x6 + x7 + x8 = a) = False := by simp; try omega
@[go_sem] theorem ltP83 (a x1 x2 x4 x5 x6 x7 x8 : Nat) : (a < a + x1 + x2 + 1 + x4 + x5 + x6 + x7 + x8) = True := by simp; omega
@[go_sem] theorem neP83 (a x1 x2 x4 x5 x6 x7 x8 : Nat) : (a = a + x1 + x2 + 1 + x4 + x5 + x6 + x7 + x8) = False := by simp; try omega
@[go_sem] theorem neQ83 (a x1 x2 x4 x5 x6 x7 x8 : Nat) : (a + x1 + x2 + 1 + x4 + x5 + x6 + x7 + x8 = a) = False := by simp; try omega
@[go_sem] theorem ltP84 (a x1 x2 x3 x5 x6 x7 x8 : Nat) : (a < a + x1 + x2 + x3 + 1 + x5 + x6 + x7 + x8) = True := by simp; omega
@[go_sem] theorem neP84 (a x1 x2 x3 x5 x6 x7 x8 : Nat) : (a = a + x1 + x2 + x3 + 1 + x5 + x6 + x7 + x8) = False := by simp; try omega
@[go_sem] theorem neQ84 (a x1 x2 x3 x5 x6 x7 x8 : Nat) : (a + x1 + x2 + x3 + 1 + x5 + x6 + x7 + x8 = a) = False := by simp; try omega
@[go_sem] theorem ltP85 (a x1 x2 x3 x4 x6 x7 x8 : Nat) : (a < a + x1 + x2 + x3 + x4 + 1 + x6 + x7 + x8) = True := by simp; omega
@[go_sem] theorem neP85 (a x1 x2 x3 x4 x6 x7 x8 : Nat) : (a = a + x1 + x2 + x3 + x4 + 1 + x6 + x7 + x8) = False := by simp; try omega
@[go_sem] theorem neQ85 (a x1 x2 x3 x4 x6 x7 x8 : Nat) : (a + x1 + x2 + x3 + x4 + 1 + x6 + x7 + x8 = a) = False := by simp; try omega
@[go_sem] theorem ltP86 (a x1 x2 x3 x4 x5 x7 x8 : Nat) : (a < a + x1 + x2 + x3 + x4 + x5 + 1 + x7 + x8) = True := by simp; omega
@[go_sem] theorem neP86 (a x1 x2 x3 x4 x5 x7 x8 : Nat) : (a = a + x1 + x2 + x3 + x4 + x5 + 1 + x7 + x8) = False := by simp; try omega
@[go_sem] theorem neQ86 (a x1 x2 x3 x4 x5 x7 x8 : Nat) : (a + x1 + x2 + x3 + x4 + x5 + 1 + x7 + x8 = a) = False := by simp; try omega
@[go_sem] theorem ltP87 (a x1 x2 x3 x4 x5 x6 x8 : Nat) : (a < a + x1 + x2 + x3 + x4 + x5 + x6 + 1 + x8) = True := by simp; omega
@[go_sem] theorem neP87 (a x1 x2 x3 x4 x5 x6 x8 : Nat) : (a = a + x1 + x2 + x3 + x4 + x5 + x6 + 1 + x8) = False := by simp; try omega
@[go_sem] theorem neQ87 (a x1 x2 x3 x4 x5 x6 x8 : Nat) : (a + x1 + x2 + x3 + x4 + x5 + x6 + 1 + x8 = a) = False := by simp; try omega
@[go_sem] theorem ltP88 (a x1 x2 x3 x4 x5 x6 x7 : Nat) : (a < a + x1 + x2 + x3 + x4 + x5 + x6 + x7 + 1) = True := by simp; omega
@[go_sem] theorem neP88 (a x1 x2 x3 x4 x5 x6 x7 : Nat) : (a = a + x1 + x2 + x3 + x4 + x5 + x6 + x7 + 1) = False := by simp; try omega
@[go_sem] theorem neQ88 (a x1 x2 x3 x4 x5 x6 x7 : Nat) : (a + x1 + x2 + x3 + x4 + x5 + x6 + x7 + 1 = a) = False := by simp; try omega
@[go_sem] theorem ltP91 (a x2 x3 x4 x5 x6 x7 x8 x9 : Nat) : (a < a + 1 + x2 + x3 + x4 + x5 + x6 + x7 + x8 + x9) = True := by simp; omega
@[go_sem] theorem neP91 (a x2 x3 x4 x5 x6 x7 x8 x9 : Nat) : (a = a + 1 + x2 + x3 + x4 + x5 + x6 + x7 + x8 + x9) = False := by simp; try omega
@[go_sem] theorem neQ91 (a x2 x3 x4 x5 x6 x7 x8 x9 : Nat) : (a + 1 + x2 + x3 + x4 + x5 + x6 + x7 + x8 + x9 = a) = False := by simp; try omega
@[go_sem] theorem ltP92 (a x1 x3 x4 x5 x6 x7 x8 x9 : Nat) : (a < a + x1 + 1 + x3 + x4 + x5 + x6 + x7 + x8 + x9) = True := by simp; omega
@[go_sem] theorem neP92 (a x1 x3 x4 x5 x6 x7 x8 x9 : Nat) : (a = a + x1 + 1 + x3 + x4 + x5 + x6 + x7 + x8 + x9) = False := by simp; try omega
@[go_sem] theorem neQ92 (a x1 x3 x4 x5 x6 x7 x8 x9 : Nat) : (a + x1 + 1 + x3 + x4 + x5 + x6 + x7 + x8 + x9 = a) = False := by simp; try omega
@[go_sem] theorem ltP93 (a x1 x2 x4 x5 x6 x7 x8 x9 : Nat) : (a < a + x1 + x2 + 1 + x4 + x5 + x6 + x7 + x8 + x9) = True := by simp; omega
@[go_sem] theorem neP93 (a x1 x2 x4 x5 x6 x7 x8 x9 : Nat) : (a = a + x1 + x2 + 1 + x4 + x5 + x6 + x7 + x8 + x9) = False := by simp; try omega
@[go_sem] theorem neQ93 (a x1 x2 x4 x5 x6 x7 x8 x9 : Nat) : (a + x1 + x2 + 1 + x4 + x5 + x6 + x7 + x8 + x9 = a) = False := by simp; try omega
@[go_sem] theorem ltP94 (a x1 x2 x3 x5 x6 x7 x8 x9 : Nat) : (a < a + x1 + x2 + x3 + 1 + x5 + x6 + x7 + x8 + x9) = True := by simp; omega
@[go_sem] theorem neP94 (a x1 x2 x3 x5 x6 x7 x8 x9 : Nat) : (a = a + x1 + x2 + x3 + 1 + x5 + x6 + x7 + x8 + x9) = False := by simp; try omega
@[go_sem] theorem neQ94 (a x1 x2 x3 x5 x6 x7 x8 x9 : Nat) : (a + x1 + x2 + x3 + 1 + x5 + x6 + x7 + x8 + x9 = a) = False := by simp; try omega
@[go_sem] theorem ltP95 (a x1 x2 x3 x4 x6 x7 x8 x9 : Nat) : (a < a + x1 + x2 + x3 + x4 + 1 + x6 + x7 + x8 + x9) = True := by simp; omega
@[go_sem] theorem neP95 (a x1 x2 x3 x4 x6 x7 x8 x9 : Nat) : (a = a + x1 + x2 + x3 + x4 + 1 + x6 + x7 + x8 + x9) = False := by simp; try omega
@[go_sem] theorem neQ95 (a x1 x2 x3 x4 x6 x7 x8 x9 : Nat) : (a + x1 + x2 + x3 + x4 + 1 + x6 + x7 + x8 + x9 = a) = False := by simp; try omega
@[go_sem] theorem ltP96 (a x1 x2 x3 x4 x5 x7 x8 x9 : Nat) : (a < a + x1 + x2 + x3 + x4 + x5 + 1 + x7 + x8 + x9) = True := by simp; omega
@[go_sem] theorem neP96 (a x1 x2 x3 x4 x5 x7 x8 x9 : Nat) : (a = a + x1 + x2 + x3 + x4 + x5 + 1 + x7 + x8 + x9) = False := by simp; try omega
@[go_sem] theorem neQ96 (a x1 x2 x3 x4 x5 x7 x8 x9 : Nat) : (a + x1 + x2 + x3 + x4 + x5 + 1 + x7 + x8 + x9 = a) = False := by simp; try omega
@[go_sem] theorem ltP97 (a x1 x2 x3 x4 x5 x6 x8 x9 : Nat) : (a < a + x1 + x2 + x3 + x4 + x5 + x6 + 1 + x8 + x9) = True := by simp; omega
@[go_sem] theorem neP97 (a x1 x2 x3 x4 x5 x6 x8 x9 : Nat) : (a = a + x1 + x2 + x3 + x4 + x5 + x6 + 1 + x8 + x9) = False := by simp; try omega
@[go_sem] theorem neQ97 (a x1 x2 x3 x4 x5 x6 x8 x9 : Nat) : (a + x1 + x2 + x3 + x4 + x5 + x6 + 1 + x8 + x9 = a) = False := by simp; try omega
@[go_sem] theorem ltP98 (a x1 x2 x3 x4 x5 x6 x7 x9 : Nat) : (a < a + x1 + x2 + x3 + x4 + x5 + x6 + x7 + 1 + x9) = True := by simp; omega
@[go_sem] theorem neP98 (a x1 x2 x3 x4 x5 x6 x7 x9 : Nat) : (a = a + x1 + x2 + x3 + x4 + x5 + x6 + x7 + 1 + x9) = False := by simp; try omega
@[go_sem] theorem neQ98 (a x1 x2 x3 x4 x5 x6 x7 x9 : Nat) : (a + x1 + x2 + x3 + x4 + x5 + x6 + x7 + 1 + x9 = a) = False := by simp; try omega
@[go_sem] theorem ltP99 (a x1 x2 x3 x4 x5 x6 x7 x8 : Nat) : (a < a + x1 + x2 + x3 + x4 + x5 + x6 + x7 + x8 + 1) = True := by simp; omega
@[go_sem] theorem neP99 (a x1 x2 x3 x4 x5 x6 x7 x8 : Nat) : (a = a + x1 + x2 + x3 + x4 + x5 + x6 + x7 + x8 + 1) = False := by simp; try omega
@[go_sem] theorem neQ99 (a x1 x2 x3 x4 x5 x6 x7 x8 : Nat) : (a + x1 + x2 + x3 + x4 + x5 + x6 + x7 + x8 + 1 = a) = False := by simp; try omega

/-- A region that draws its order, whose operations read and whose callees end in 'Below': one walk in the order of the text. -/
theorem wp_region_gw {P : Program} {id : Nat} {Q : Exit → Act → World → Prop} {a : Act} {w : World} {l : List Oper} (hm : P.follows .mixedOrders = true) (hB : Region.lexB .any l.toArray = true)
    (h : wpQuiet P l.toArray (fun w' => ∃ p : Regrown, w' = gw w p) (fun a' => ∀ w', (∃ p : Regrown, w' = gw w p) → Q .normal a' w') l a) : (Code.region id l.toArray true).wp P Q a w :=
  wp_region_quiet_below hm hB h
/-- A callee's contract in such a region. -/
theorem gw_quiet {P : Program} {f : FuncId} {args : Array Value} {w : World} {p : Regrown} {v : Value}
    (h : Calls P f args (gw w p) fun e w' => e = .returned v ∧ Below (gw w p).heap.size (gw w p) w') : Calls P f args (gw w p) fun e w'' => e = .returned v ∧ ∃ q : Regrown, w'' = gw w q :=
  Calls.regrown_of h
theorem gw_quiet_same {P : Program} {f : FuncId} {args : Array Value} {w : World} {p : Regrown} {v : Value}
    (h : Calls P f args (gw w p) fun e w' => e = .returned v ∧ gw w p = w') : Calls P f args (gw w p) fun e w'' => e = .returned v ∧ ∃ q : Regrown, w'' = gw w q :=
  h.mono fun _ _ ⟨he, hb⟩ => ⟨he, p, hb.symm⟩
end Go.Proofs.YtocgjpijjghiiaaDoor
