/- Joined texts: Base, Parse. -/
import Derived.Test.YtpkbonfbehhbdaaGreatDoorProg
import Derived.BigQuiet
import Derived.Laws.EntriesVeiled
import Derived.Lib.Hide
import Derived.Lib.QuietBelow
import Derived.WalkKit
import Derived.WalkLawsBesides
import Derived.WalkSpells
/- Small laws for worlds behind a call that has laid blocks: 'gw w p' is w with some blocks laid behind it and some draws made. (Written by wip/gen_base.py.) -/
namespace Go.Proofs.YtpkbonfbehhbdaaGreatDoor
open Go.RowKit Go.Sort

/-- w with blocks laid and draws made. -/
def gw (w : World) (p : Regrown) : World := grow (redrawn w p.d) p.os

theorem gw_of_below {w w' : World} (h : Below w.heap.size w w') : ∃ p : Regrown, w' = gw w p := regrown_of_below h
theorem below_gw (w : World) (p : Regrown) : Below w.heap.size w (gw w p) := below_regrown w p.d p.os
theorem below_gw' {B : Nat} {a w : World} (h : Below B a w) (hB : B ≤ w.heap.size) (p : Regrown) : Below B a (gw w p) := h.trans ((below_gw w p).mono hB)
@[go_sem] theorem gw_size (w : World) (p : Regrown) : (gw w p).heap.size = w.heap.size + p.os.size := by simp [gw, redrawn]
@[go_sem] theorem gw_cell (w : World) (p : Regrown) (n i : Nat) (h : n < w.heap.size) : (gw w p).cell? ⟨n, i, none⟩ = w.cell? ⟨n, i, none⟩ := (below_gw w p).cell (p := ⟨n, i, none⟩) h
@[go_sem] theorem gw_frozen (w : World) (p : Regrown) (n i : Nat) (h : n < w.heap.size) : (gw w p).frozen? ⟨n, i, none⟩ = w.frozen? ⟨n, i, none⟩ := (below_gw w p).frozen (p := ⟨n, i, none⟩) h
@[go_sem] theorem gw_setCell (w : World) (p : Regrown) (n i : Nat) (v : Value) (h : n < w.heap.size) : (gw w p).setCell ⟨n, i, none⟩ v = gw (w.setCell ⟨n, i, none⟩ v) p := by
  simp only [gw, grow, redrawn, World.setCell, modify_append_left _ _ _ _ h]
@[go_sem] theorem gw_drew_in (w : World) (p : Regrown) : gw w.drew p = gw w p := rfl
theorem gw_gw (w : World) (p q : Regrown) : gw (gw w p) q = gw w ⟨q.d, p.os ++ q.os⟩ := by
  simp only [gw, grow, redrawn, Array.append_assoc]
theorem gw_drew_gw (w : World) (p q : Regrown) : gw (gw w p).drew q = gw w ⟨q.d, p.os ++ q.os⟩ := by rw [gw_drew_in, gw_gw]
theorem addr_add (b o j : Nat) : (⟨b, o, none⟩ : Addr).add j = ⟨b, o + j, none⟩ := by
  unfold Addr.add
  split
  · rename_i h; subst h; rfl
  · rfl
@[go_sem] theorem ltP21 (a x2 : Nat) : (a < a + 1 + x2) = True := by simp; omega
@[go_sem] theorem neP21 (a x2 : Nat) : (a = a + 1 + x2) = False := by simp; try omega
@[go_sem] theorem neQ21 (a x2 : Nat) : (a + 1 + x2 = a) = False := by simp; try omega
@[go_sem] theorem ltP22 (a x1 : Nat) : (a < a + x1 + 1) = True := by simp; omega
@[go_sem] theorem neP22 (a x1 : Nat) : (a = a + x1 + 1) = False := by simp; try omega
@[go_sem] theorem neQ22 (a x1 : Nat) : (a + x1 + 1 = a) = False := by simp; try omega
@[go_sem] theorem ltP31 (a x2 x3 : Nat) : (a < a + 1 + x2 + x3) = True := by simp; omega
@[go_sem] theorem neP31 (a x2 x3 : Nat) : (a = a + 1 + x2 + x3) = False := by simp; try omega
@[go_sem] theorem neQ31 (a x2 x3 : Nat) : (a + 1 + x2 + x3 = a) = False := by simp; try omega
@[go_sem] theorem ltP32 (a x1 x3 : Nat) : (a < a + x1 + 1 + x3) = True := by simp; omega
@[go_sem] theorem neP32 (a x1 x3 : Nat) : (a = a + x1 + 1 + x3) = False := by simp; try omega
@[go_sem] theorem neQ32 (a x1 x3 : Nat) : (a + x1 + 1 + x3 = a) = False := by simp; try omega
@[go_sem] theorem ltP33 (a x1 x2 : Nat) : (a < a + x1 + x2 + 1) = True := by simp; omega
@[go_sem] theorem neP33 (a x1 x2 : Nat) : (a = a + x1 + x2 + 1) = False := by simp; try omega
@[go_sem] theorem neQ33 (a x1 x2 : Nat) : (a + x1 + x2 + 1 = a) = False := by simp; try omega
@[go_sem] theorem ltP41 (a x2 x3 x4 : Nat) : (a < a + 1 + x2 + x3 + x4) = True := by simp; omega
@[go_sem] theorem neP41 (a x2 x3 x4 : Nat) : (a = a + 1 + x2 + x3 + x4) = False := by simp; try omega
@[go_sem] theorem neQ41 (a x2 x3 x4 : Nat) : (a + 1 + x2 + x3 + x4 = a) = False := by simp; try omega
@[go_sem] theorem ltP42 (a x1 x3 x4 : Nat) : (a < a + x1 + 1 + x3 + x4) = True := by simp; omega
@[go_sem] theorem neP42 (a x1 x3 x4 : Nat) : (a = a + x1 + 1 + x3 + x4) = False := by simp; try omega
@[go_sem] theorem neQ42 (a x1 x3 x4 : Nat) : (a + x1 + 1 + x3 + x4 = a) = False := by simp; try omega
@[go_sem] theorem ltP43 (a x1 x2 x4 : Nat) : (a < a + x1 + x2 + 1 + x4) = True := by simp; omega
@[go_sem] theorem neP43 (a x1 x2 x4 : Nat) : (a = a + x1 + x2 + 1 + x4) = False := by simp; try omega
@[go_sem] theorem neQ43 (a x1 x2 x4 : Nat) : (a + x1 + x2 + 1 + x4 = a) = False := by simp; try omega
@[go_sem] theorem ltP44 (a x1 x2 x3 : Nat) : (a < a + x1 + x2 + x3 + 1) = True := by simp; omega
@[go_sem] theorem neP44 (a x1 x2 x3 : Nat) : (a = a + x1 + x2 + x3 + 1) = False := by simp; try omega
@[go_sem] theorem neQ44 (a x1 x2 x3 : Nat) : (a + x1 + x2 + x3 + 1 = a) = False := by simp; try omega
@[go_sem] theorem ltP51 (a x2 x3 x4 x5 : Nat) : (a < a + 1 + x2 + x3 + x4 + x5) = True := by simp; omega
@[go_sem] theorem neP51 (a x2 x3 x4 x5 : Nat) : (a = a + 1 + x2 + x3 + x4 + x5) = False := by simp; try omega
@[go_sem] theorem neQ51 (a x2 x3 x4 x5 : Nat) : (a + 1 + x2 + x3 + x4 + x5 = a) = False := by simp; try omega
@[go_sem] theorem ltP52 (a x1 x3 x4 x5 : Nat) : (a < a + x1 + 1 + x3 + x4 + x5) = True := by simp; omega
@[go_sem] theorem neP52 (a x1 x3 x4 x5 : Nat) : (a = a + x1 + 1 + x3 + x4 + x5) = False := by simp; try omega
@[go_sem] theorem neQ52 (a x1 x3 x4 x5 : Nat) : (a + x1 + 1 + x3 + x4 + x5 = a) = False := by simp; try omega
@[go_sem] theorem ltP53 (a x1 x2 x4 x5 : Nat) : (a < a + x1 + x2 + 1 + x4 + x5) = True := by simp; omega
@[go_sem] theorem neP53 (a x1 x2 x4 x5 : Nat) : (a = a + x1 + x2 + 1 + x4 + x5) = False := by simp; try omega
@[go_sem] theorem neQ53 (a x1 x2 x4 x5 : Nat) : (a + x1 + x2 + 1 + x4 + x5 = a) = False := by simp; try omega
@[go_sem] theorem ltP54 (a x1 x2 x3 x5 : Nat) : (a < a + x1 + x2 + x3 + 1 + x5) = True := by simp; omega
@[go_sem] theorem neP54 (a x1 x2 x3 x5 : Nat) : (a = a + x1 + x2 + x3 + 1 + x5) = False := by simp; try omega
@[go_sem] theorem neQ54 (a x1 x2 x3 x5 : Nat) : (a + x1 + x2 + x3 + 1 + x5 = a) = False := by simp; try omega
@[go_sem] theorem ltP55 (a x1 x2 x3 x4 : Nat) : (a < a + x1 + x2 + x3 + x4 + 1) = True := by simp; omega
@[go_sem] theorem neP55 (a x1 x2 x3 x4 : Nat) : (a = a + x1 + x2 + x3 + x4 + 1) = False := by simp; try omega
@[go_sem] theorem neQ55 (a x1 x2 x3 x4 : Nat) : (a + x1 + x2 + x3 + x4 + 1 = a) = False := by simp; try omega
@[go_sem] theorem ltP61 (a x2 x3 x4 x5 x6 : Nat) : (a < a + 1 + x2 + x3 + x4 + x5 + x6) = True := by simp; omega
@[go_sem] theorem neP61 (a x2 x3 x4 x5 x6 : Nat) : (a = a + 1 + x2 + x3 + x4 + x5 + x6) = False := by simp; try omega
@[go_sem] theorem neQ61 (a x2 x3 x4 x5 x6 : Nat) : (a + 1 + x2 + x3 + x4 + x5 + x6 = a) = False := by simp; try omega
@[go_sem] theorem ltP62 (a x1 x3 x4 x5 x6 : Nat) : (a < a + x1 + 1 + x3 + x4 + x5 + x6) = True := by simp; omega
@[go_sem] theorem neP62 (a x1 x3 x4 x5 x6 : Nat) : (a = a + x1 + 1 + x3 + x4 + x5 + x6) = False := by simp; try omega
@[go_sem] theorem neQ62 (a x1 x3 x4 x5 x6 : Nat) : (a + x1 + 1 + x3 + x4 + x5 + x6 = a) = False := by simp; try omega
@[go_sem] theorem ltP63 (a x1 x2 x4 x5 x6 : Nat) : (a < a + x1 + x2 + 1 + x4 + x5 + x6) = True := by simp; omega
@[go_sem] theorem neP63 (a x1 x2 x4 x5 x6 : Nat) : (a = a + x1 + x2 + 1 + x4 + x5 + x6) = False := by simp; try omega
@[go_sem] theorem neQ63 (a x1 x2 x4 x5 x6 : Nat) : (a + x1 + x2 + 1 + x4 + x5 + x6 = a) = False := by simp; try omega
@[go_sem] theorem ltP64 (a x1 x2 x3 x5 x6 : Nat) : (a < a + x1 + x2 + x3 + 1 + x5 + x6) = True := by simp; omega
@[go_sem] theorem neP64 (a x1 x2 x3 x5 x6 : Nat) : (a = a + x1 + x2 + x3 + 1 + x5 + x6) = False := by simp; try omega
@[go_sem] theorem neQ64 (a x1 x2 x3 x5 x6 : Nat) : (a + x1 + x2 + x3 + 1 + x5 + x6 = a) = False := by simp; try omega
@[go_sem] theorem ltP65 (a x1 x2 x3 x4 x6 : Nat) : (a < a + x1 + x2 + x3 + x4 + 1 + x6) = True := by simp; omega
@[go_sem] theorem neP65 (a x1 x2 x3 x4 x6 : Nat) : (a = a + x1 + x2 + x3 + x4 + 1 + x6) = False := by simp; try omega
@[go_sem] theorem neQ65 (a x1 x2 x3 x4 x6 : Nat) : (a + x1 + x2 + x3 + x4 + 1 + x6 = a) = False := by simp; try omega
@[go_sem] theorem ltP66 (a x1 x2 x3 x4 x5 : Nat) : (a < a + x1 + x2 + x3 + x4 + x5 + 1) = True := by simp; omega
@[go_sem] theorem neP66 (a x1 x2 x3 x4 x5 : Nat) : (a = a + x1 + x2 + x3 + x4 + x5 + 1) = False := by simp; try omega
@[go_sem] theorem neQ66 (a x1 x2 x3 x4 x5 : Nat) : (a + x1 + x2 + x3 + x4 + x5 + 1 = a) = False := by simp; try omega
@[go_sem] theorem ltP71 (a x2 x3 x4 x5 x6 x7 : Nat) : (a < a + 1 + x2 + x3 + x4 + x5 + x6 + x7) = True := by simp; omega
@[go_sem] theorem neP71 (a x2 x3 x4 x5 x6 x7 : Nat) : (a = a + 1 + x2 + x3 + x4 + x5 + x6 + x7) = False := by simp; try omega
@[go_sem] theorem neQ71 (a x2 x3 x4 x5 x6 x7 : Nat) : (a + 1 + x2 + x3 + x4 + x5 + x6 + x7 = a) = False := by simp; try omega
@[go_sem] theorem ltP72 (a x1 x3 x4 x5 x6 x7 : Nat) : (a < a + x1 + 1 + x3 + x4 + x5 + x6 + x7) = True := by simp; omega
@[go_sem] theorem neP72 (a x1 x3 x4 x5 x6 x7 : Nat) : (a = a + x1 + 1 + x3 + x4 + x5 + x6 + x7) = False := by simp; try omega
@[go_sem] theorem neQ72 (a x1 x3 x4 x5 x6 x7 : Nat) : (a + x1 + 1 + x3 + x4 + x5 + x6 + x7 = a) = False := by simp; try omega
@[go_sem] theorem ltP73 (a x1 x2 x4 x5 x6 x7 : Nat) : (a < a + x1 + x2 + 1 + x4 + x5 + x6 + x7) = True := by simp; omega
@[go_sem] theorem neP73 (a x1 x2 x4 x5 x6 x7 : Nat) : (a = a + x1 + x2 + 1 + x4 + x5 + x6 + x7) = False := by simp; try omega
@[go_sem] theorem neQ73 (a x1 x2 x4 x5 x6 x7 : Nat) : (a + x1 + x2 + 1 + x4 + x5 + x6 + x7 = a) = False := by simp; try omega
@[go_sem] theorem ltP74 (a x1 x2 x3 x5 x6 x7 : Nat) : (a < a + x1 + x2 + x3 + 1 + x5 + x6 + x7) = True := by simp; omega
@[go_sem] theorem neP74 (a x1 x2 x3 x5 x6 x7 : Nat) : (a = a + x1 + x2 + x3 + 1 + x5 + x6 + x7) = False := by simp; try omega
@[go_sem] theorem neQ74 (a x1 x2 x3 x5 x6 x7 : Nat) : (a + x1 + x2 + x3 + 1 + x5 + x6 + x7 = a) = False := by simp; try omega
@[go_sem] theorem ltP75 (a x1 x2 x3 x4 x6 x7 : Nat) : (a < a + x1 + x2 + x3 + x4 + 1 + x6 + x7) = True := by simp; omega
@[go_sem] theorem neP75 (a x1 x2 x3 x4 x6 x7 : Nat) : (a = a + x1 + x2 + x3 + x4 + 1 + x6 + x7) = False := by simp; try omega
@[go_sem] theorem neQ75 (a x1 x2 x3 x4 x6 x7 : Nat) : (a + x1 + x2 + x3 + x4 + 1 + x6 + x7 = a) = False := by simp; try omega
@[go_sem] theorem ltP76 (a x1 x2 x3 x4 x5 x7 : Nat) : (a < a + x1 + x2 + x3 + x4 + x5 + 1 + x7) = True := by simp; omega
@[go_sem] theorem neP76 (a x1 x2 x3 x4 x5 x7 : Nat) : (a = a + x1 + x2 + x3 + x4 + x5 + 1 + x7) = False := by simp; try omega
@[go_sem] theorem neQ76 (a x1 x2 x3 x4 x5 x7 : Nat) : (a + x1 + x2 + x3 + x4 + x5 + 1 + x7 = a) = False := by simp; try omega
@[go_sem] theorem ltP77 (a x1 x2 x3 x4 x5 x6 : Nat) : (a < a + x1 + x2 + x3 + x4 + x5 + x6 + 1) = True := by simp; omega
@[go_sem] theorem neP77 (a x1 x2 x3 x4 x5 x6 : Nat) : (a = a + x1 + x2 + x3 + x4 + x5 + x6 + 1) = False := by simp; try omega
@[go_sem] theorem neQ77 (a x1 x2 x3 x4 x5 x6 : Nat) : (a + x1 + x2 + x3 + x4 + x5 + x6 + 1 = a) = False := by simp; try omega
@[go_sem] theorem ltP81 (a x2 x3 x4 x5 x6 x7 x8 : Nat) : (a < a + 1 + x2 + x3 + x4 + x5 + x6 + x7 + x8) = True := by simp; omega
@[go_sem] theorem neP81 (a x2 x3 x4 x5 x6 x7 x8 : Nat) : (a = a + 1 + x2 + x3 + x4 + x5 + x6 + x7 + x8) = False := by simp; try omega
@[go_sem] theorem neQ81 (a x2 x3 x4 x5 x6 x7 x8 : Nat) : (a + 1 + x2 + x3 + x4 + x5 + x6 + x7 + x8 = a) = False := by simp; try omega
@[go_sem] theorem ltP82 (a x1 x3 x4 x5 x6 x7 x8 : Nat) : (a < a + x1 + 1 + x3 + x4 + x5 + x6 + x7 + x8) = True := by simp; omega
@[go_sem] theorem neP82 (a x1 x3 x4 x5 x6 x7 x8 : Nat) : (a = a + x1 + 1 + x3 + x4 + x5 + x6 + x7 + x8) = False := by simp; try omega
@[go_sem] theorem neQ82 (a x1 x3 x4 x5 x6 x7 x8 : Nat) : (a + x1 + 1 + x3 + x4 + x5 + x6 + x7 + x8 = a) = False := by simp; try omega
@[go_sem] theorem ltP83 (a x1 x2 x4 x5 x6 x7 x8 : Nat) : (a < a + x1 + x2 + 1 + x4 + x5 + x6 + x7 + x8) = True := by simp; omega
@[go_sem] theorem neP83 (a x1 x2 x4 x5 x6 x7 x8 : Nat) : (a = a + x1 + x2 + 1 + x4 + x5 + x6 + x7 + x8) = False := by simp; try omega
@[go_sem] theorem neQ83 (a x1 x2 x4 x5 x6 x7 x8 : Nat) : (a + x1 + x2 + 1 + x4 + x5 + x6 + x7 + x8 = a) = False := by simp; try omega
@[go_sem] theorem ltP84 (a x1 x2 x3 x5 x6 x7 x8 : Nat) : (a < a + x1 + x2 + x3 + 1 + x5 + x6 + x7 + x8) = True := by simp; omega
@[go_sem] theorem neP84 (a x1 x2 x3 x5 x6 x7 x8 : Nat) : (a = a + x1 + x2 + x3 + 1 + x5 + x6 + x7 + x8) = False := by simp; try omega
@[go_sem] theorem neQ84 (a x1 x2 x3 x5 x6 x7 x8 : Nat) : (a + x1 + x2 + x3 + 1 + x5 + x6 + x7 + x8 = a) = False := by simp; try omega
@[go_sem] theorem ltP85 (a x1 x2 x3 x4 x6 x7 x8 : Nat) : (a < a + x1 + x2 + x3 + x4 + 1 + x6 + x7 + x8) = True := by simp; omega
@[go_sem] theorem neP85 (a x1 x2 x3 x4 x6 x7 x8 : Nat) : (a = a + x1 + x2 + x3 + x4 + 1 + x6 + x7 + x8) = False := by simp; try omega
@[go_sem] theorem neQ85 (a x1 x2 x3 x4 x6 x7 x8 : Nat) : (a + x1 + x2 + x3 + x4 + 1 + x6 + x7 + x8 = a) = False := by simp; try omega
@[go_sem] theorem ltP86 (a x1 x2 x3 x4 x5 x7 x8 : Nat) : (a < a + x1 + x2 + x3 + x4 + x5 + 1 + x7 + x8) = True := by simp; omega
@[go_sem] theorem neP86 (a x1 x2 x3 x4 x5 x7 x8 : Nat) : (a = a + x1 + x2 + x3 + x4 + x5 + 1 + x7 + x8) = False := by simp; try omega
@[go_sem] theorem neQ86 (a x1 x2 x3 x4 x5 x7 x8 : Nat) : (a + x1 + x2 + x3 + x4 + x5 + 1 + x7 + x8 = a) = False := by simp; try omega
@[go_sem] theorem ltP87 (a x1 x2 x3 x4 x5 x6 x8 : Nat) : (a < a + x1 + x2 + x3 + x4 + x5 + x6 + 1 + x8) = True := by simp; omega
@[go_sem] theorem neP87 (a x1 x2 x3 x4 x5 x6 x8 : Nat) : (a = a + x1 + x2 + x3 + x4 + x5 + x6 + 1 + x8) = False := by simp; try omega
@[go_sem] theorem neQ87 (a x1 x2 x3 x4 x5 x6 x8 : Nat) : (a + x1 + x2 + x3 + x4 + x5 + x6 + 1 + x8 = a) = False := by simp; try omega
@[go_sem] theorem ltP88 (a x1 x2 x3 x4 x5 x6 x7 : Nat) : (a < a + x1 + x2 + x3 + x4 + x5 + x6 + x7 + 1) = True := by simp; omega
@[go_sem] theorem neP88 (a x1 x2 x3 x4 x5 x6 x7 : Nat) : (a = a + x1 + x2 + x3 + x4 + x5 + x6 + x7 + 1) = False := by simp; try omega
@[go_sem] theorem neQ88 (a x1 x2 x3 x4 x5 x6 x7 : Nat) : (a + x1 + x2 + x3 + x4 + x5 + x6 + x7 + 1 = a) = False := by simp; try omega
@[go_sem] theorem ltP91 (a x2 x3 x4 x5 x6 x7 x8 x9 : Nat) : (a < a + 1 + x2 + x3 + x4 + x5 + x6 + x7 + x8 + x9) = True := by simp; omega
@[go_sem] theorem neP91 (a x2 x3 x4 x5 x6 x7 x8 x9 : Nat) : (a = a + 1 + x2 + x3 + x4 + x5 + x6 + x7 + x8 + x9) = False := by simp; try omega
@[go_sem] theorem neQ91 (a x2 x3 x4 x5 x6 x7 x8 x9 : Nat) : (a + 1 + x2 + x3 + x4 + x5 + x6 + x7 + x8 + x9 = a) = False := by simp; try omega
@[go_sem] theorem ltP92 (a x1 x3 x4 x5 x6 x7 x8 x9 : Nat) : (a < a + x1 + 1 + x3 + x4 + x5 + x6 + x7 + x8 + x9) = True := by simp; omega
@[go_sem] theorem neP92 (a x1 x3 x4 x5 x6 x7 x8 x9 : Nat) : (a = a + x1 + 1 + x3 + x4 + x5 + x6 + x7 + x8 + x9) = False := by simp; try omega
@[go_sem] theorem neQ92 (a x1 x3 x4 x5 x6 x7 x8 x9 : Nat) : (a + x1 + 1 + x3 + x4 + x5 + x6 + x7 + x8 + x9 = a) = False := by simp; try omega
@[go_sem] theorem ltP93 (a x1 x2 x4 x5 x6 x7 x8 x9 : Nat) : (a < a + x1 + x2 + 1 + x4 + x5 + x6 + x7 + x8 + x9) = True := by simp; omega
@[go_sem] theorem neP93 (a x1 x2 x4 x5 x6 x7 x8 x9 : Nat) : (a = a + x1 + x2 + 1 + x4 + x5 + x6 + x7 + x8 + x9) = False := by simp; try omega
@[go_sem] theorem neQ93 (a x1 x2 x4 x5 x6 x7 x8 x9 : Nat) : (a + x1 + x2 + 1 + x4 + x5 + x6 + x7 + x8 + x9 = a) = False := by simp; try omega
@[go_sem] theorem ltP94 (a x1 x2 x3 x5 x6 x7 x8 x9 : Nat) : (a < a + x1 + x2 + x3 + 1 + x5 + x6 + x7 + x8 + x9) = True := by simp; omega
@[go_sem] theorem neP94 (a x1 x2 x3 x5 x6 x7 x8 x9 : Nat) : (a = a + x1 + x2 + x3 + 1 + x5 + x6 + x7 + x8 + x9) = False := by simp; try omega
@[go_sem] theorem neQ94 (a x1 x2 x3 x5 x6 x7 x8 x9 : Nat) : (a + x1 + x2 + x3 + 1 + x5 + x6 + x7 + x8 + x9 = a) = False := by simp; try omega
@[go_sem] theorem ltP95 (a x1 x2 x3 x4 x6 x7 x8 x9 : Nat) : (a < a + x1 + x2 + x3 + x4 + 1 + x6 + x7 + x8 + x9) = True := by simp; omega
@[go_sem] theorem neP95 (a x1 x2 x3 x4 x6 x7 x8 x9 : Nat) : (a = a + x1 + x2 + x3 + x4 + 1 + x6 + x7 + x8 + x9) = False := by simp; try omega
@[go_sem] theorem neQ95 (a x1 x2 x3 x4 x6 x7 x8 x9 : Nat) : (a + x1 + x2 + x3 + x4 + 1 + x6 + x7 + x8 + x9 = a) = False := by simp; try omega
@[go_sem] theorem ltP96 (a x1 x2 x3 x4 x5 x7 x8 x9 : Nat) : (a < a + x1 + x2 + x3 + x4 + x5 + 1 + x7 + x8 + x9) = True := by simp; omega
@[go_sem] theorem neP96 (a x1 x2 x3 x4 x5 x7 x8 x9 : Nat) : (a = a + x1 + x2 + x3 + x4 + x5 + 1 + x7 + x8 + x9) = False := by simp; try omega
@[go_sem] theorem neQ96 (a x1 x2 x3 x4 x5 x7 x8 x9 : Nat) : (a + x1 + x2 + x3 + x4 + x5 + 1 + x7 + x8 + x9 = a) = False := by simp; try omega
@[go_sem] theorem ltP97 (a x1 x2 x3 x4 x5 x6 x8 x9 : Nat) : (a < a + x1 + x2 + x3 + x4 + x5 + x6 + 1 + x8 + x9) = True := by simp; omega
@[go_sem] theorem neP97 (a x1 x2 x3 x4 x5 x6 x8 x9 : Nat) : (a = a + x1 + x2 + x3 + x4 + x5 + x6 + 1 + x8 + x9) = False := by simp; try omega
@[go_sem] theorem neQ97 (a x1 x2 x3 x4 x5 x6 x8 x9 : Nat) : (a + x1 + x2 + x3 + x4 + x5 + x6 + 1 + x8 + x9 = a) = False := by simp; try omega
@[go_sem] theorem ltP98 (a x1 x2 x3 x4 x5 x6 x7 x9 : Nat) : (a < a + x1 + x2 + x3 + x4 + x5 + x6 + x7 + 1 + x9) = True := by simp; omega
@[go_sem] theorem neP98 (a x1 x2 x3 x4 x5 x6 x7 x9 : Nat) : (a = a + x1 + x2 + x3 + x4 + x5 + x6 + x7 + 1 + x9) = False := by simp; try omega
@[go_sem] theorem neQ98 (a x1 x2 x3 x4 x5 x6 x7 x9 : Nat) : (a + x1 + x2 + x3 + x4 + x5 + x6 + x7 + 1 + x9 = a) = False := by simp; try omega
@[go_sem] theorem ltP99 (a x1 x2 x3 x4 x5 x6 x7 x8 : Nat) : (a < a + x1 + x2 + x3 + x4 + x5 + x6 + x7 + x8 + 1) = True := by simp; omega
@[go_sem] theorem neP99 (a x1 x2 x3 x4 x5 x6 x7 x8 : Nat) : (a = a + x1 + x2 + x3 + x4 + x5 + x6 + x7 + x8 + 1) = False := by simp; try omega
@[go_sem] theorem neQ99 (a x1 x2 x3 x4 x5 x6 x7 x8 : Nat) : (a + x1 + x2 + x3 + x4 + x5 + x6 + x7 + x8 + 1 = a) = False := by simp; try omega

/-- A region that draws its order, whose operations read and whose callees end in 'Below': one walk in the order of the text. -/
theorem wp_region_gw {P : Program} {id : Nat} {Q : Exit → Act → World → Prop} {a : Act} {w : World} {l : List Oper} (hm : P.follows .mixedOrders = true) (hB : Region.lexB .any l.toArray = true)
    (h : wpQuiet P l.toArray (fun w' => ∃ p : Regrown, w' = gw w p) (fun a' => ∀ w', (∃ p : Regrown, w' = gw w p) → Q .normal a' w') l a) : (Code.region id l.toArray true).wp P Q a w :=
  wp_region_quiet_below hm hB h
/-- A callee's contract in such a region. -/
theorem gw_quiet {P : Program} {f : FuncId} {args : Array Value} {w : World} {p : Regrown} {v : Value}
    (h : Calls P f args (gw w p) fun e w' => e = .returned v ∧ Below (gw w p).heap.size (gw w p) w') : Calls P f args (gw w p) fun e w'' => e = .returned v ∧ ∃ q : Regrown, w'' = gw w q :=
  Calls.regrown_of h
theorem gw_quiet_same {P : Program} {f : FuncId} {args : Array Value} {w : World} {p : Regrown} {v : Value}
    (h : Calls P f args (gw w p) fun e w' => e = .returned v ∧ gw w p = w') : Calls P f args (gw w p) fun e w'' => e = .returned v ∧ ∃ q : Regrown, w'' = gw w q :=
  h.mono fun _ _ ⟨he, hb⟩ => ⟨he, p, hb.symm⟩
end Go.Proofs.YtpkbonfbehhbdaaGreatDoor

/- Two ways to parse an expression, and that they agree: by levels from the left, and at the last operator of the lowest level. No program in sight. -/
namespace Go.Proofs.YtpkbonfbehhbdaaGreatDoor
open Go.RowKit Go.Sort

/-- What both parsers look at: a token's level as a binary operator (0: none), whether it is a sign before an operand, a bracket, an operand by itself, and whether an operand can end with it. -/
structure Lang (τ ν : Type) where
  lvl : τ → Nat
  isU : τ → Bool
  isL : τ → Bool
  isR : τ → Bool
  ends : τ → Bool
  atom : τ → Option ν
  un : τ → ν → ν
  bin : τ → ν → ν → ν
  lvl_le : ∀ t, lvl t ≤ 6
  lvl_op : ∀ t, lvl t ≠ 0 → ends t = false ∧ atom t = none ∧ isL t = false ∧ isR t = false
  u_ends : ∀ t, isU t = true → ends t = false ∧ atom t = none ∧ isL t = false ∧ isR t = false
  l_not : ∀ t, isL t = true → ends t = false ∧ atom t = none ∧ isR t = false
  r_ends : ∀ t, isR t = true → ends t = true ∧ atom t = none
  a_ends : ∀ t e, atom t = some e → ends t = true

section
variable {τ ν : Type} (S : Lang τ ν)

/-- The grammar: none: an operand with its signs; some k: operands with operators of at least level k between them. -/
inductive G : Option Nat → List τ → ν → Prop
  | atom (t : τ) (e : ν) : S.atom t = some e → G none [t] e
  | par (t t' : τ) (l : List τ) (e : ν) : S.isL t = true → S.isR t' = true → G (some 1) l e → G none (t :: (l ++ [t'])) e
  | un (t : τ) (l : List τ) (e : ν) : S.isU t = true → G none l e → G none (t :: l) (S.un t e)
  | one (k : Nat) (l : List τ) (e : ν) : G none l e → G (some k) l e
  | bin (k : Nat) (t : τ) (l l' : List τ) (a b : ν) : S.lvl t ≠ 0 → k ≤ S.lvl t → G (some (S.lvl t)) l a → G (some (S.lvl t + 1)) l' b → G (some k) (l ++ t :: l') (S.bin t a b)

theorem G.mono {k m : Nat} {l : List τ} {e : ν} (h : G S (some m) l e) (hk : k ≤ m) : G S (some k) l e := by
  cases h with
  | one _ _ _ h => exact .one _ _ _ h
  | bin _ t l l' a b h0 h1 h2 h3 => exact .bin _ t l l' a b h0 (Nat.le_trans hk h1) h2 h3

/-! ### By levels from the left -/
inductive St (τ ν : Type) where
  | B (lv : Nat) (l : List τ)
  | L (lv : Nat) (a : ν) (l : List τ)
  | U (l : List τ)

def Stop (lv : Nat) (r : List τ) : Prop := ∀ t r', r = t :: r' → S.lvl t = 0 ∨ S.lvl t < lv

inductive P : St τ ν → Option (ν × List τ) → Prop
  | binN (lv : Nat) (l : List τ) : P (.U l) none → P (.B lv l) none
  | bin (lv : Nat) (l r : List τ) (a : ν) (res : Option (ν × List τ)) : P (.U l) (some (a, r)) → P (.L lv a r) res → P (.B lv l) res
  | stop (lv : Nat) (a : ν) (r : List τ) : Stop S lv r → P (.L lv a r) (some (a, r))
  | step (lv : Nat) (a b : ν) (t : τ) (r r' : List τ) (res : Option (ν × List τ)) : S.lvl t ≠ 0 → ¬ S.lvl t < lv → P (.B (S.lvl t + 1) r) (some (b, r')) → P (.L lv (S.bin t a b) r') res → P (.L lv a (t :: r)) res
  | stepN (lv : Nat) (a : ν) (t : τ) (r : List τ) : S.lvl t ≠ 0 → ¬ S.lvl t < lv → P (.B (S.lvl t + 1) r) none → P (.L lv a (t :: r)) none
  | nil : P (.U []) none
  | un (t : τ) (l : List τ) (res : Option (ν × List τ)) : S.isU t = true → P (.U l) res → P (.U (t :: l)) (res.map fun x => (S.un t x.1, x.2))
  | par (t t' : τ) (l r : List τ) (e : ν) : S.isU t = false → S.isL t = true → P (.B 1 l) (some (e, t' :: r)) → S.isR t' = true → P (.U (t :: l)) (some (e, r))
  | parN (t : τ) (l : List τ) (res : Option (ν × List τ)) : S.isU t = false → S.isL t = true → P (.B 1 l) res → (∀ e t' r, res = some (e, t' :: r) → S.isR t' = false) → P (.U (t :: l)) none
  | atom (t : τ) (l : List τ) : S.isU t = false → S.isL t = false → P (.U (t :: l)) ((S.atom t).map fun e => (e, l))

theorem P.det {s : St τ ν} {x y : Option (ν × List τ)} (h : P S s x) (h' : P S s y) : x = y := by
  induction h generalizing y with
  | binN lv l h ih =>
    cases h' with
    | binN _ _ h2 => rfl
    | bin _ _ r a _ h2 h3 => exact absurd (ih h2) (by simp)
  | bin lv l r a res h1 h2 ih1 ih2 =>
    cases h' with
    | binN _ _ g2 => exact absurd (ih1 g2) (by simp)
    | bin _ _ r' a' _ g1 g2 =>
      have := ih1 g1
      simp only [Option.some.injEq, Prod.mk.injEq] at this
      obtain ⟨rfl, rfl⟩ := this
      exact ih2 g2
  | stop lv a r hs =>
    cases h' with
    | stop _ _ _ _ => rfl
    | step _ _ b t r0 r' _ g0 g1 _ _ => rcases hs t r0 rfl with h | h <;> contradiction
    | stepN _ _ t r0 g0 g1 _ => rcases hs t r0 rfl with h | h <;> contradiction
  | step lv a b t r r' res h0 h1 h2 h3 ih2 ih3 =>
    cases h' with
    | stop _ _ _ hs => rcases hs t r rfl with h | h <;> contradiction
    | step _ _ b' _ _ r'' _ g0 g1 g2 g3 =>
      have := ih2 g2
      simp only [Option.some.injEq, Prod.mk.injEq] at this
      obtain ⟨rfl, rfl⟩ := this
      exact ih3 g3
    | stepN _ _ _ _ g0 g1 g2 => exact absurd (ih2 g2) (by simp)
  | stepN lv a t r h0 h1 h2 ih2 =>
    cases h' with
    | stop _ _ _ hs => rcases hs t r rfl with h | h <;> contradiction
    | step _ _ b' _ _ r'' _ g0 g1 g2 g3 => exact absurd (ih2 g2) (by simp)
    | stepN _ _ _ _ g0 g1 g2 => rfl
  | nil => cases h'; rfl
  | un t l res h0 h1 ih =>
    cases h' with
    | un _ _ res' g0 g1 => rw [ih g1]
    | par _ t' _ r e g0 g1 g2 g3 => rw [h0] at g0; cases g0
    | parN _ _ res' g0 g1 g2 g3 => rw [h0] at g0; cases g0
    | atom _ _ g0 g1 => rw [h0] at g0; cases g0
  | par t t' l r e h0 h1 h2 h3 ih =>
    cases h' with
    | un _ _ res' g0 g1 => rw [h0] at g0; cases g0
    | par _ t'' _ r' e' g0 g1 g2 g3 =>
      have := ih g2
      simp only [Option.some.injEq, Prod.mk.injEq, List.cons.injEq] at this
      obtain ⟨rfl, rfl, rfl⟩ := this
      rfl
    | parN _ _ res' g0 g1 g2 g3 => rw [g3 e t' r (ih g2).symm] at h3; cases h3
    | atom _ _ g0 g1 => rw [h1] at g1; cases g1
  | parN t l res h0 h1 h2 h3 ih =>
    cases h' with
    | un _ _ res' g0 g1 => rw [h0] at g0; cases g0
    | par _ t'' _ r' e' g0 g1 g2 g3 => rw [h3 e' t'' r' (ih g2)] at g3; cases g3
    | parN _ _ res' g0 g1 g2 g3 => rfl
    | atom _ _ g0 g1 => rw [h1] at g1; cases g1
  | atom t l h0 h1 =>
    cases h' with
    | un _ _ res' g0 g1 => rw [h0] at g0; cases g0
    | par _ t'' _ r' e' g0 g1 g2 g3 => rw [h1] at g1; cases g1
    | parN _ _ res' g0 g1 g2 g3 => rw [h1] at g1; cases g1
    | atom _ _ g0 g1 => rfl

/-- What a state promises. -/
def Sound (s : St τ ν) (res : Option (ν × List τ)) : Prop :=
  match s with
  | .B lv l => ∀ e r, res = some (e, r) → ∃ l1, l = l1 ++ r ∧ G S (some lv) l1 e ∧ Stop S lv r
  | .L lv a r => ∀ e r2, res = some (e, r2) → ∀ l0 m, G S (some m) l0 a → lv ≤ m → (∀ t r', r = t :: r' → S.lvl t ≤ m) → ∃ l1, r = l1 ++ r2 ∧ G S (some lv) (l0 ++ l1) e ∧ Stop S lv r2
  | .U l => ∀ e r, res = some (e, r) → ∃ l1, l = l1 ++ r ∧ G S none l1 e

theorem P.sound {s : St τ ν} {res : Option (ν × List τ)} (h : P S s res) : Sound S s res := by
  induction h with
  | binN lv l h ih => intro e r he; cases he
  | bin lv l r a res h1 h2 ih1 ih2 =>
    intro e r2 he
    obtain ⟨l1, rfl, hg⟩ := ih1 a r rfl
    obtain ⟨l2, rfl, hg2, hs⟩ := ih2 e r2 he l1 (max lv 7) (.one _ _ _ hg) (Nat.le_max_left _ _) (fun t r' _ => Nat.le_trans (S.lvl_le t) (Nat.le_trans (by omega) (Nat.le_max_right lv 7)))
    exact ⟨l1 ++ l2, by rw [List.append_assoc], hg2, hs⟩
  | stop lv a r hs =>
    intro e r2 he l0 m hg hm _
    cases he
    exact ⟨[], rfl, by rw [List.append_nil]; exact hg.mono S hm, hs⟩
  | step lv a b t r r' res h0 h1 h2 h3 ih2 ih3 =>
    intro e r2 he l0 m hg hm hh
    obtain ⟨l1, rfl, hg1, hs1⟩ := ih2 b r' rfl
    obtain ⟨l2, rfl, hg2, hs2⟩ := ih3 e r2 he (l0 ++ t :: l1) (S.lvl t) (.bin _ t l0 l1 a b h0 (Nat.le_refl _) (hg.mono S (hh t _ rfl)) hg1) (by omega) (fun t' r'' hr => by
      rcases hs1 t' r'' hr with h | h <;> omega)
    exact ⟨t :: (l1 ++ l2), by simp, by simpa using hg2, hs2⟩
  | stepN lv a t r h0 h1 h2 ih2 => intro e r2 he; cases he
  | nil => intro e r he; cases he
  | un t l res h0 h1 ih =>
    intro e r he
    obtain ⟨⟨e', r'⟩, hx, hy⟩ := Option.map_eq_some_iff.1 he
    simp only [Prod.mk.injEq] at hy
    obtain ⟨rfl, rfl⟩ := hy
    obtain ⟨l1, rfl, hg⟩ := ih e' r' hx
    exact ⟨t :: l1, rfl, .un t l1 e' h0 hg⟩
  | par t t' l r e h0 h1 h2 h3 ih =>
    intro e' r' he
    simp only [Option.some.injEq, Prod.mk.injEq] at he
    obtain ⟨rfl, rfl⟩ := he
    obtain ⟨l1, rfl, hg, _⟩ := ih e (t' :: r) rfl
    exact ⟨t :: (l1 ++ [t']), by simp, .par t t' l1 e h1 h3 hg⟩
  | parN t l res h0 h1 h2 h3 ih => intro e r he; cases he
  | atom t l h0 h1 =>
    intro e r he
    obtain ⟨e', hx, hy⟩ := Option.map_eq_some_iff.1 he
    simp only [Prod.mk.injEq] at hy
    obtain ⟨rfl, rfl⟩ := hy
    exact ⟨[t], rfl, .atom t e' hx⟩

/-- What the grammar promises of the parser by levels. -/
def Found (k : Option Nat) (l : List τ) (e : ν) : Prop :=
  match k with
  | none => ∀ r, P S (.U (l ++ r)) (some (e, r))
  | some k => ∀ lv r res, lv ≤ k → (∀ t r', r = t :: r' → S.lvl t ≤ k) → P S (.L lv e r) res → P S (.B lv (l ++ r)) res

theorem G.found {k : Option Nat} {l : List τ} {e : ν} (h : G S k l e) : Found S k l e := by
  induction h with
  | atom t e ha =>
    intro r
    have h0 : S.isU t = false := by
      cases hu : S.isU t with
      | false => rfl
      | true => rw [(S.u_ends t hu).2.1] at ha; cases ha
    have h1 : S.isL t = false := by
      cases hu : S.isL t with
      | false => rfl
      | true => rw [(S.l_not t hu).2.1] at ha; cases ha
    have := P.atom (S := S) t r h0 h1
    rw [ha] at this
    exact this
  | par t t' l e h1 h2 hg ih =>
    intro r
    have h0 : S.isU t = false := by
      cases hu : S.isU t with
      | false => rfl
      | true => rw [(S.u_ends t hu).2.2.1] at h1; cases h1
    have hz : S.lvl t' = 0 := by
      rcases Nat.eq_zero_or_pos (S.lvl t') with h | h
      · exact h
      · rw [(S.lvl_op t' (by omega)).2.2.2] at h2; cases h2
    have hb := ih 1 (t' :: r) (some (e, t' :: r)) (Nat.le_refl _) (fun t2 r2 hr => by cases hr; omega) (.stop _ _ _ (fun t2 r2 hr => by cases hr; exact .inl hz))
    have := P.par (S := S) t t' (l ++ t' :: r) r e h0 h1 hb h2
    simpa using this
  | un t l e h0 hg ih =>
    intro r
    exact P.un (S := S) t (l ++ r) _ h0 (ih r)
  | one k l e hg ih =>
    intro lv r res _ _ hL
    exact .bin lv (l ++ r) r e res (ih r) hL
  | bin k t l l' a b h0 hk hg1 hg2 ih1 ih2 =>
    intro lv r res hlv hh hL
    rw [List.append_assoc]
    refine ih1 lv _ res (by omega) (fun t2 r2 hr => by cases hr; exact Nat.le_refl _) ?_
    refine .step lv a b t (l' ++ r) r res h0 (by omega) ?_ hL
    refine ih2 _ r _ (Nat.le_refl _) (fun t2 r2 hr => by have := hh t2 r2 hr; omega) (.stop _ _ _ (fun t2 r2 hr => ?_))
    have := hh t2 r2 hr
    omega

theorem P.full {l : List τ} {res : Option (ν × List τ)} (h : P S (.B 1 l) res) (e : ν) : res = some (e, []) ↔ G S (some 1) l e := by
  constructor
  · intro he
    obtain ⟨l1, hl, hg, _⟩ := h.sound S e [] he
    rw [List.append_nil] at hl
    rw [hl]; exact hg
  · intro hg
    have := hg.found S 1 [] (some (e, [])) (Nat.le_refl _) (fun t r' hr => by cases hr) (.stop _ _ _ (fun t r' hr => by cases hr))
    rw [List.append_nil] at this
    exact h.det S this
end
end Go.Proofs.YtpkbonfbehhbdaaGreatDoor
