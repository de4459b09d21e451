/- Joined texts: Base, Parse, Parse2, Upper, Toks, ArgsP, Row, OpRow. -/
import Derived.Test.YtkldoojonnkfgaaGreatDoorProg
import Derived.BigQuiet
import Derived.Laws.EntriesVeiled
import Derived.Lib.Hide
import Derived.Lib.QuietBelow
import Derived.WalkLawsBesides
import Derived.WalkSpells
namespace Go.Proofs.YtkldoojonnkfgaaGreatDoor
open Go.RowKit Go.Sort
def gw (w:World) (p:Regrown):World:=grow (redrawn w p.d) p.os
theorem gw_of_below {w w':World} (h:Below w.heap.size w w'):∃ p:Regrown,w'=gw w p:=regrown_of_below h
theorem below_gw (w:World) (p:Regrown):Below w.heap.size w (gw w p):=below_regrown w p.d p.os
theorem below_gw' {B:Nat} {a w:World} (h:Below B a w) (hB:B≤w.heap.size) (p:Regrown):Below B a (gw w p):=h.trans ((below_gw w p).mono hB)
theorem Hh {p:Prop} (h:p):Hid p:=Lib.hid h
theorem kbq {p:Prop} (h:p:=by (with_reducible repeat (first | refine Kb.gw ?_ _ | refine Kb.setCell ?_ _ _ | refine Kb.alloc ?_ _ | refine Kb.drew ?_ | exact Kb.refl _ _ | exact HK.out))):p:=h
theorem lxq {p:Prop} (h:p:=by (with_reducible repeat (first | apply LexAt.gw | apply LexAt.at | apply LexAt.kind | apply LexAt.text | apply LexAt.n | apply LexAt.off | apply LexAt.alloc | apply LexAt.drew | exact HL.out))):p:=h
theorem bl {p:Prop} (h:p:=by (repeat (first | exact Below.refl _ _ | refine Below.drew ?_ | (refine below_gw' ?_ (by first | omega | (simp [go_sem]; done) | (simp [go_sem]; omega)) _) | (refine Below.alloc ?_ (by first | omega | (simp [go_sem]; done) | (simp [go_sem]; omega)) _) | (refine Below.setCell ?_ (by first | omega | (simp [go_sem]; done) | (simp [go_sem]; omega)) _)))):p:=h
@[go_sem] theorem gw_size (w:World) (p:Regrown):(gw w p).heap.size=w.heap.size+p.os.size:=by simp [gw,redrawn]
@[go_sem] theorem gw_cell (w:World) (p:Regrown) (n i:Nat) (h:n<w.heap.size):(gw w p).cell? ⟨n,i,none⟩=w.cell? ⟨n,i,none⟩:=(below_gw w p).cell (p:=⟨n,i,none⟩) h
@[go_sem] theorem gw_frozen (w:World) (p:Regrown) (n i:Nat) (h:n<w.heap.size):(gw w p).frozen? ⟨n,i,none⟩=w.frozen? ⟨n,i,none⟩:=(below_gw w p).frozen (p:=⟨n,i,none⟩) h
@[go_sem] theorem gw_setCell (w:World) (p:Regrown) (n i:Nat) (v:Value) (h:n<w.heap.size):(gw w p).setCell ⟨n,i,none⟩ v=gw (w.setCell ⟨n,i,none⟩ v) p:=by
 simp only [gw,grow,redrawn,World.setCell,modify_append_left _ _ _ _ h]
@[go_sem] theorem gw_drew_in (w:World) (p:Regrown):gw w.drew p=gw w p:=rfl
theorem addr_add (b o j:Nat):(⟨b,o,none⟩:Addr).add j=⟨b,o+j,none⟩:=by
 unfold Addr.add
 split
 · rename_i h; subst h; rfl
 · rfl
@[go_sem] theorem ltP21 (a x2:Nat):(a<a+1+x2)=True:=by simp; omega
@[go_sem] theorem neP21 (a x2:Nat):(a=a+1+x2)=False:=by simp; try omega
@[go_sem] theorem neQ21 (a x2:Nat):(a+1+x2=a)=False:=by simp; try omega
@[go_sem] theorem ltP22 (a x1:Nat):(a<a+x1+1)=True:=by simp; omega
@[go_sem] theorem neP22 (a x1:Nat):(a=a+x1+1)=False:=by simp; try omega
@[go_sem] theorem neQ22 (a x1:Nat):(a+x1+1=a)=False:=by simp; try omega
@[go_sem] theorem ltP31 (a x2 x3:Nat):(a<a+1+x2+x3)=True:=by simp; omega
@[go_sem] theorem neP31 (a x2 x3:Nat):(a=a+1+x2+x3)=False:=by simp; try omega
@[go_sem] theorem neQ31 (a x2 x3:Nat):(a+1+x2+x3=a)=False:=by simp; try omega
@[go_sem] theorem ltP32 (a x1 x3:Nat):(a<a+x1+1+x3)=True:=by simp; omega
@[go_sem] theorem neP32 (a x1 x3:Nat):(a=a+x1+1+x3)=False:=by simp; try omega
@[go_sem] theorem neQ32 (a x1 x3:Nat):(a+x1+1+x3=a)=False:=by simp; try omega
@[go_sem] theorem ltP33 (a x1 x2:Nat):(a<a+x1+x2+1)=True:=by simp; omega
@[go_sem] theorem neP33 (a x1 x2:Nat):(a=a+x1+x2+1)=False:=by simp; try omega
@[go_sem] theorem neQ33 (a x1 x2:Nat):(a+x1+x2+1=a)=False:=by simp; try omega
@[go_sem] theorem ltP41 (a x2 x3 x4:Nat):(a<a+1+x2+x3+x4)=True:=by simp; omega
@[go_sem] theorem neP41 (a x2 x3 x4:Nat):(a=a+1+x2+x3+x4)=False:=by simp; try omega
@[go_sem] theorem neQ41 (a x2 x3 x4:Nat):(a+1+x2+x3+x4=a)=False:=by simp; try omega
@[go_sem] theorem ltP42 (a x1 x3 x4:Nat):(a<a+x1+1+x3+x4)=True:=by simp; omega
@[go_sem] theorem neP42 (a x1 x3 x4:Nat):(a=a+x1+1+x3+x4)=False:=by simp; try omega
@[go_sem] theorem neQ42 (a x1 x3 x4:Nat):(a+x1+1+x3+x4=a)=False:=by simp; try omega
@[go_sem] theorem ltP43 (a x1 x2 x4:Nat):(a<a+x1+x2+1+x4)=True:=by simp; omega
@[go_sem] theorem neP43 (a x1 x2 x4:Nat):(a=a+x1+x2+1+x4)=False:=by simp; try omega
@[go_sem] theorem neQ43 (a x1 x2 x4:Nat):(a+x1+x2+1+x4=a)=False:=by simp; try omega
@[go_sem] theorem ltP44 (a x1 x2 x3:Nat):(a<a+x1+x2+x3+1)=True:=by simp; omega
@[go_sem] theorem neP44 (a x1 x2 x3:Nat):(a=a+x1+x2+x3+1)=False:=by simp; try omega
@[go_sem] theorem neQ44 (a x1 x2 x3:Nat):(a+x1+x2+x3+1=a)=False:=by simp; try omega
@[go_sem] theorem ltP51 (a x2 x3 x4 x5:Nat):(a<a+1+x2+x3+x4+x5)=True:=by simp; omega
@[go_sem] theorem neP51 (a x2 x3 x4 x5:Nat):(a=a+1+x2+x3+x4+x5)=False:=by simp; try omega
@[go_sem] theorem neQ51 (a x2 x3 x4 x5:Nat):(a+1+x2+x3+x4+x5=a)=False:=by simp; try omega
@[go_sem] theorem ltP52 (a x1 x3 x4 x5:Nat):(a<a+x1+1+x3+x4+x5)=True:=by simp; omega
@[go_sem] theorem neP52 (a x1 x3 x4 x5:Nat):(a=a+x1+1+x3+x4+x5)=False:=by simp; try omega
@[go_sem] theorem neQ52 (a x1 x3 x4 x5:Nat):(a+x1+1+x3+x4+x5=a)=False:=by simp; try omega
@[go_sem] theorem ltP53 (a x1 x2 x4 x5:Nat):(a<a+x1+x2+1+x4+x5)=True:=by simp; omega
@[go_sem] theorem neP53 (a x1 x2 x4 x5:Nat):(a=a+x1+x2+1+x4+x5)=False:=by simp; try omega
@[go_sem] theorem neQ53 (a x1 x2 x4 x5:Nat):(a+x1+x2+1+x4+x5=a)=False:=by simp; try omega
@[go_sem] theorem ltP54 (a x1 x2 x3 x5:Nat):(a<a+x1+x2+x3+1+x5)=True:=by simp; omega
@[go_sem] theorem neP54 (a x1 x2 x3 x5:Nat):(a=a+x1+x2+x3+1+x5)=False:=by simp; try omega
@[go_sem] theorem neQ54 (a x1 x2 x3 x5:Nat):(a+x1+x2+x3+1+x5=a)=False:=by simp; try omega
@[go_sem] theorem ltP55 (a x1 x2 x3 x4:Nat):(a<a+x1+x2+x3+x4+1)=True:=by simp; omega
@[go_sem] theorem neP55 (a x1 x2 x3 x4:Nat):(a=a+x1+x2+x3+x4+1)=False:=by simp; try omega
@[go_sem] theorem neQ55 (a x1 x2 x3 x4:Nat):(a+x1+x2+x3+x4+1=a)=False:=by simp; try omega
@[go_sem] theorem ltP61 (a x2 x3 x4 x5 x6:Nat):(a<a+1+x2+x3+x4+x5+x6)=True:=by simp; omega
@[go_sem] theorem neP61 (a x2 x3 x4 x5 x6:Nat):(a=a+1+x2+x3+x4+x5+x6)=False:=by simp; try omega
@[go_sem] theorem neQ61 (a x2 x3 x4 x5 x6:Nat):(a+1+x2+x3+x4+x5+x6=a)=False:=by simp; try omega
@[go_sem] theorem ltP62 (a x1 x3 x4 x5 x6:Nat):(a<a+x1+1+x3+x4+x5+x6)=True:=by simp; omega
@[go_sem] theorem neP62 (a x1 x3 x4 x5 x6:Nat):(a=a+x1+1+x3+x4+x5+x6)=False:=by simp; try omega
@[go_sem] theorem neQ62 (a x1 x3 x4 x5 x6:Nat):(a+x1+1+x3+x4+x5+x6=a)=False:=by simp; try omega
@[go_sem] theorem ltP63 (a x1 x2 x4 x5 x6:Nat):(a<a+x1+x2+1+x4+x5+x6)=True:=by simp; omega
@[go_sem] theorem neP63 (a x1 x2 x4 x5 x6:Nat):(a=a+x1+x2+1+x4+x5+x6)=False:=by simp; try omega
@[go_sem] theorem neQ63 (a x1 x2 x4 x5 x6:Nat):(a+x1+x2+1+x4+x5+x6=a)=False:=by simp; try omega
@[go_sem] theorem ltP64 (a x1 x2 x3 x5 x6:Nat):(a<a+x1+x2+x3+1+x5+x6)=True:=by simp; omega
@[go_sem] theorem neP64 (a x1 x2 x3 x5 x6:Nat):(a=a+x1+x2+x3+1+x5+x6)=False:=by simp; try omega
@[go_sem] theorem neQ64 (a x1 x2 x3 x5 x6:Nat):(a+x1+x2+x3+1+x5+x6=a)=False:=by simp; try omega
@[go_sem] theorem ltP65 (a x1 x2 x3 x4 x6:Nat):(a<a+x1+x2+x3+x4+1+x6)=True:=by simp; omega
@[go_sem] theorem neP65 (a x1 x2 x3 x4 x6:Nat):(a=a+x1+x2+x3+x4+1+x6)=False:=by simp; try omega
@[go_sem] theorem neQ65 (a x1 x2 x3 x4 x6:Nat):(a+x1+x2+x3+x4+1+x6=a)=False:=by simp; try omega
@[go_sem] theorem ltP66 (a x1 x2 x3 x4 x5:Nat):(a<a+x1+x2+x3+x4+x5+1)=True:=by simp; omega
@[go_sem] theorem neP66 (a x1 x2 x3 x4 x5:Nat):(a=a+x1+x2+x3+x4+x5+1)=False:=by simp; try omega
@[go_sem] theorem neQ66 (a x1 x2 x3 x4 x5:Nat):(a+x1+x2+x3+x4+x5+1=a)=False:=by simp; try omega
@[go_sem] theorem ltP71 (a x2 x3 x4 x5 x6 x7:Nat):(a<a+1+x2+x3+x4+x5+x6+x7)=True:=by simp; omega
@[go_sem] theorem neP71 (a x2 x3 x4 x5 x6 x7:Nat):(a=a+1+x2+x3+x4+x5+x6+x7)=False:=by simp; try omega
@[go_sem] theorem neQ71 (a x2 x3 x4 x5 x6 x7:Nat):(a+1+x2+x3+x4+x5+x6+x7=a)=False:=by simp; try omega
@[go_sem] theorem ltP72 (a x1 x3 x4 x5 x6 x7:Nat):(a<a+x1+1+x3+x4+x5+x6+x7)=True:=by simp; omega
@[go_sem] theorem neP72 (a x1 x3 x4 x5 x6 x7:Nat):(a=a+x1+1+x3+x4+x5+x6+x7)=False:=by simp; try omega
@[go_sem] theorem neQ72 (a x1 x3 x4 x5 x6 x7:Nat):(a+x1+1+x3+x4+x5+x6+x7=a)=False:=by simp; try omega
@[go_sem] theorem ltP73 (a x1 x2 x4 x5 x6 x7:Nat):(a<a+x1+x2+1+x4+x5+x6+x7)=True:=by simp; omega
@[go_sem] theorem neP73 (a x1 x2 x4 x5 x6 x7:Nat):(a=a+x1+x2+1+x4+x5+x6+x7)=False:=by simp; try omega
@[go_sem] theorem neQ73 (a x1 x2 x4 x5 x6 x7:Nat):(a+x1+x2+1+x4+x5+x6+x7=a)=False:=by simp; try omega
@[go_sem] theorem ltP74 (a x1 x2 x3 x5 x6 x7:Nat):(a<a+x1+x2+x3+1+x5+x6+x7)=True:=by simp; omega
@[go_sem] theorem neP74 (a x1 x2 x3 x5 x6 x7:Nat):(a=a+x1+x2+x3+1+x5+x6+x7)=False:=by simp; try omega
@[go_sem] theorem neQ74 (a x1 x2 x3 x5 x6 x7:Nat):(a+x1+x2+x3+1+x5+x6+x7=a)=False:=by simp; try omega
@[go_sem] theorem ltP75 (a x1 x2 x3 x4 x6 x7:Nat):(a<a+x1+x2+x3+x4+1+x6+x7)=True:=by simp; omega
@[go_sem] theorem neP75 (a x1 x2 x3 x4 x6 x7:Nat):(a=a+x1+x2+x3+x4+1+x6+x7)=False:=by simp; try omega
@[go_sem] theorem neQ75 (a x1 x2 x3 x4 x6 x7:Nat):(a+x1+x2+x3+x4+1+x6+x7=a)=False:=by simp; try omega
@[go_sem] theorem ltP76 (a x1 x2 x3 x4 x5 x7:Nat):(a<a+x1+x2+x3+x4+x5+1+x7)=True:=by simp; omega
@[go_sem] theorem neP76 (a x1 x2 x3 x4 x5 x7:Nat):(a=a+x1+x2+x3+x4+x5+1+x7)=False:=by simp; try omega
@[go_sem] theorem neQ76 (a x1 x2 x3 x4 x5 x7:Nat):(a+x1+x2+x3+x4+x5+1+x7=a)=False:=by simp; try omega
@[go_sem] theorem ltP77 (a x1 x2 x3 x4 x5 x6:Nat):(a<a+x1+x2+x3+x4+x5+x6+1)=True:=by simp; omega
@[go_sem] theorem neP77 (a x1 x2 x3 x4 x5 x6:Nat):(a=a+x1+x2+x3+x4+x5+x6+1)=False:=by simp; try omega
@[go_sem] theorem neQ77 (a x1 x2 x3 x4 x5 x6:Nat):(a+x1+x2+x3+x4+x5+x6+1=a)=False:=by simp; try omega
@[go_sem] theorem ltP81 (a x2 x3 x4 x5 x6 x7 x8:Nat):(a<a+1+x2+x3+x4+x5+x6+x7+x8)=True:=by simp; omega
@[go_sem] theorem neP81 (a x2 x3 x4 x5 x6 x7 x8:Nat):(a=a+1+x2+x3+x4+x5+x6+x7+x8)=False:=by simp; try omega
@[go_sem] theorem neQ81 (a x2 x3 x4 x5 x6 x7 x8:Nat):(a+1+x2+x3+x4+x5+x6+x7+x8=a)=False:=by simp; try omega
@[go_sem] theorem ltP82 (a x1 x3 x4 x5 x6 x7 x8:Nat):(a<a+x1+1+x3+x4+x5+x6+x7+x8)=True:=by simp; omega
@[go_sem] theorem neP82 (a x1 x3 x4 x5 x6 x7 x8:Nat):(a=a+x1+1+x3+x4+x5+x6+x7+x8)=False:=by simp; try omega
@[go_sem] theorem neQ82 (a x1 x3 x4 x5 x6 x7 x8:Nat):(a+x1+1+x3+x4+x5+x6+x7+x8=a)=False:=by simp; try omega
@[go_sem] theorem ltP83 (a x1 x2 x4 x5 x6 x7 x8:Nat):(a<a+x1+x2+1+x4+x5+x6+x7+x8)=True:=by simp; omega
@[go_sem] theorem neP83 (a x1 x2 x4 x5 x6 x7 x8:Nat):(a=a+x1+x2+1+x4+x5+x6+x7+x8)=False:=by simp; try omega
@[go_sem] theorem neQ83 (a x1 x2 x4 x5 x6 x7 x8:Nat):(a+x1+x2+1+x4+x5+x6+x7+x8=a)=False:=by simp; try omega
@[go_sem] theorem ltP84 (a x1 x2 x3 x5 x6 x7 x8:Nat):(a<a+x1+x2+x3+1+x5+x6+x7+x8)=True:=by simp; omega
@[go_sem] theorem neP84 (a x1 x2 x3 x5 x6 x7 x8:Nat):(a=a+x1+x2+x3+1+x5+x6+x7+x8)=False:=by simp; try omega
@[go_sem] theorem neQ84 (a x1 x2 x3 x5 x6 x7 x8:Nat):(a+x1+x2+x3+1+x5+x6+x7+x8=a)=False:=by simp; try omega
@[go_sem] theorem ltP85 (a x1 x2 x3 x4 x6 x7 x8:Nat):(a<a+x1+x2+x3+x4+1+x6+x7+x8)=True:=by simp; omega
@[go_sem] theorem neP85 (a x1 x2 x3 x4 x6 x7 x8:Nat):(a=a+x1+x2+x3+x4+1+x6+x7+x8)=False:=by simp; try omega
@[go_sem] theorem neQ85 (a x1 x2 x3 x4 x6 x7 x8:Nat):(a+x1+x2+x3+x4+1+x6+x7+x8=a)=False:=by simp; try omega
@[go_sem] theorem ltP86 (a x1 x2 x3 x4 x5 x7 x8:Nat):(a<a+x1+x2+x3+x4+x5+1+x7+x8)=True:=by simp; omega
@[go_sem] theorem neP86 (a x1 x2 x3 x4 x5 x7 x8:Nat):(a=a+x1+x2+x3+x4+x5+1+x7+x8)=False:=by simp; try omega
@[go_sem] theorem neQ86 (a x1 x2 x3 x4 x5 x7 x8:Nat):(a+x1+x2+x3+x4+x5+1+x7+x8=a)=False:=by simp; try omega
@[go_sem] theorem ltP87 (a x1 x2 x3 x4 x5 x6 x8:Nat):(a<a+x1+x2+x3+x4+x5+x6+1+x8)=True:=by simp; omega
@[go_sem] theorem neP87 (a x1 x2 x3 x4 x5 x6 x8:Nat):(a=a+x1+x2+x3+x4+x5+x6+1+x8)=False:=by simp; try omega
@[go_sem] theorem neQ87 (a x1 x2 x3 x4 x5 x6 x8:Nat):(a+x1+x2+x3+x4+x5+x6+1+x8=a)=False:=by simp; try omega
@[go_sem] theorem ltP88 (a x1 x2 x3 x4 x5 x6 x7:Nat):(a<a+x1+x2+x3+x4+x5+x6+x7+1)=True:=by simp; omega
@[go_sem] theorem neP88 (a x1 x2 x3 x4 x5 x6 x7:Nat):(a=a+x1+x2+x3+x4+x5+x6+x7+1)=False:=by simp; try omega
@[go_sem] theorem neQ88 (a x1 x2 x3 x4 x5 x6 x7:Nat):(a+x1+x2+x3+x4+x5+x6+x7+1=a)=False:=by simp; try omega
@[go_sem] theorem ltP91 (a x2 x3 x4 x5 x6 x7 x8 x9:Nat):(a<a+1+x2+x3+x4+x5+x6+x7+x8+x9)=True:=by simp; omega
@[go_sem] theorem neP91 (a x2 x3 x4 x5 x6 x7 x8 x9:Nat):(a=a+1+x2+x3+x4+x5+x6+x7+x8+x9)=False:=by simp; try omega
@[go_sem] theorem neQ91 (a x2 x3 x4 x5 x6 x7 x8 x9:Nat):(a+1+x2+x3+x4+x5+x6+x7+x8+x9=a)=False:=by simp; try omega
@[go_sem] theorem ltP92 (a x1 x3 x4 x5 x6 x7 x8 x9:Nat):(a<a+x1+1+x3+x4+x5+x6+x7+x8+x9)=True:=by simp; omega
@[go_sem] theorem neP92 (a x1 x3 x4 x5 x6 x7 x8 x9:Nat):(a=a+x1+1+x3+x4+x5+x6+x7+x8+x9)=False:=by simp; try omega
@[go_sem] theorem neQ92 (a x1 x3 x4 x5 x6 x7 x8 x9:Nat):(a+x1+1+x3+x4+x5+x6+x7+x8+x9=a)=False:=by simp; try omega
@[go_sem] theorem ltP93 (a x1 x2 x4 x5 x6 x7 x8 x9:Nat):(a<a+x1+x2+1+x4+x5+x6+x7+x8+x9)=True:=by simp; omega
@[go_sem] theorem neP93 (a x1 x2 x4 x5 x6 x7 x8 x9:Nat):(a=a+x1+x2+1+x4+x5+x6+x7+x8+x9)=False:=by simp; try omega
@[go_sem] theorem neQ93 (a x1 x2 x4 x5 x6 x7 x8 x9:Nat):(a+x1+x2+1+x4+x5+x6+x7+x8+x9=a)=False:=by simp; try omega
@[go_sem] theorem ltP94 (a x1 x2 x3 x5 x6 x7 x8 x9:Nat):(a<a+x1+x2+x3+1+x5+x6+x7+x8+x9)=True:=by simp; omega
@[go_sem] theorem neP94 (a x1 x2 x3 x5 x6 x7 x8 x9:Nat):(a=a+x1+x2+x3+1+x5+x6+x7+x8+x9)=False:=by simp; try omega
@[go_sem] theorem neQ94 (a x1 x2 x3 x5 x6 x7 x8 x9:Nat):(a+x1+x2+x3+1+x5+x6+x7+x8+x9=a)=False:=by simp; try omega
@[go_sem] theorem ltP95 (a x1 x2 x3 x4 x6 x7 x8 x9:Nat):(a<a+x1+x2+x3+x4+1+x6+x7+x8+x9)=True:=by simp; omega
@[go_sem] theorem neP95 (a x1 x2 x3 x4 x6 x7 x8 x9:Nat):(a=a+x1+x2+x3+x4+1+x6+x7+x8+x9)=False:=by simp; try omega
@[go_sem] theorem neQ95 (a x1 x2 x3 x4 x6 x7 x8 x9:Nat):(a+x1+x2+x3+x4+1+x6+x7+x8+x9=a)=False:=by simp; try omega
@[go_sem] theorem ltP96 (a x1 x2 x3 x4 x5 x7 x8 x9:Nat):(a<a+x1+x2+x3+x4+x5+1+x7+x8+x9)=True:=by simp; omega
@[go_sem] theorem neP96 (a x1 x2 x3 x4 x5 x7 x8 x9:Nat):(a=a+x1+x2+x3+x4+x5+1+x7+x8+x9)=False:=by simp; try omega
@[go_sem] theorem neQ96 (a x1 x2 x3 x4 x5 x7 x8 x9:Nat):(a+x1+x2+x3+x4+x5+1+x7+x8+x9=a)=False:=by simp; try omega
@[go_sem] theorem ltP97 (a x1 x2 x3 x4 x5 x6 x8 x9:Nat):(a<a+x1+x2+x3+x4+x5+x6+1+x8+x9)=True:=by simp; omega
@[go_sem] theorem neP97 (a x1 x2 x3 x4 x5 x6 x8 x9:Nat):(a=a+x1+x2+x3+x4+x5+x6+1+x8+x9)=False:=by simp; try omega
@[go_sem] theorem neQ97 (a x1 x2 x3 x4 x5 x6 x8 x9:Nat):(a+x1+x2+x3+x4+x5+x6+1+x8+x9=a)=False:=by simp; try omega
@[go_sem] theorem ltP98 (a x1 x2 x3 x4 x5 x6 x7 x9:Nat):(a<a+x1+x2+x3+x4+x5+x6+x7+1+x9)=True:=by simp; omega
@[go_sem] theorem neP98 (a x1 x2 x3 x4 x5 x6 x7 x9:Nat):(a=a+x1+x2+x3+x4+x5+x6+x7+1+x9)=False:=by simp; try omega
@[go_sem] theorem neQ98 (a x1 x2 x3 x4 x5 x6 x7 x9:Nat):(a+x1+x2+x3+x4+x5+x6+x7+1+x9=a)=False:=by simp; try omega
@[go_sem] theorem ltP99 (a x1 x2 x3 x4 x5 x6 x7 x8:Nat):(a<a+x1+x2+x3+x4+x5+x6+x7+x8+1)=True:=by simp; omega
@[go_sem] theorem neP99 (a x1 x2 x3 x4 x5 x6 x7 x8:Nat):(a=a+x1+x2+x3+x4+x5+x6+x7+x8+1)=False:=by simp; try omega
@[go_sem] theorem neQ99 (a x1 x2 x3 x4 x5 x6 x7 x8:Nat):(a+x1+x2+x3+x4+x5+x6+x7+x8+1=a)=False:=by simp; try omega
theorem wp_region_gw {P:Program} {id:Nat} {Q:Exit→Act→World→Prop} {a:Act} {w:World} {l:List Oper} (hm:P.follows .mixedOrders=true) (hB:Region.lexB .any l.toArray=true)
 (h:wpQuiet P l.toArray (fun w'=>∃ p:Regrown,w'=gw w p) (fun a'=>∀ w',(∃ p:Regrown,w'=gw w p)→Q .normal a' w') l a):(Code.region id l.toArray true).wp P Q a w :=
 wp_region_quiet_below hm hB h
theorem gw_quiet {P:Program} {f:FuncId} {args:Array Value} {w:World} {p:Regrown} {v:Value}
 (h:Calls P f args (gw w p) fun e w'=>e=.returned v∧Below (gw w p).heap.size (gw w p) w'):Calls P f args (gw w p) fun e w''=>e=.returned v∧∃ q:Regrown,w''=gw w q :=
 Calls.regrown_of h
theorem gw_quiet_same {P:Program} {f:FuncId} {args:Array Value} {w:World} {p:Regrown} {v:Value}
 (h:Calls P f args (gw w p) fun e w'=>e=.returned v∧gw w p=w'):Calls P f args (gw w p) fun e w''=>e=.returned v∧∃ q:Regrown,w''=gw w q :=
 h.mono fun _ _ ⟨he,hb⟩=>⟨he,p,hb.symm⟩
end Go.Proofs.YtkldoojonnkfgaaGreatDoor
namespace Go.Proofs.YtkldoojonnkfgaaGreatDoor
open Go.RowKit Go.Sort
structure Lang (τ ν:Type) where
 lvl:τ→Nat
 isU:τ→Bool
 isL:τ→Bool
 isR:τ→Bool
 ends:τ→Bool
 atom:τ→Option ν
 un:τ→ν→ν
 bin:τ→ν→ν→ν
 lvl_le:∀ t,lvl t≤6
 lvl_op:∀ t,lvl t≠0→ends t=false∧atom t=none∧isL t=false∧isR t=false
 u_ends:∀ t,isU t=true→ends t=false∧atom t=none∧isL t=false∧isR t=false
 l_not:∀ t,isL t=true→ends t=false∧atom t=none∧isR t=false
 r_ends:∀ t,isR t=true→ends t=true∧atom t=none
 a_ends:∀ t e,atom t=some e→ends t=true
section
variable {τ ν:Type} (S:Lang τ ν)
inductive G:Option Nat→List τ→ν→Prop
 | atom (t:τ) (e:ν):S.atom t=some e→G none [t] e
 | par (t t':τ) (l:List τ) (e:ν):S.isL t=true→S.isR t'=true→G (some 1) l e→G none (t::(l++[t'])) e
 | un (t:τ) (l:List τ) (e:ν):S.isU t=true→G none l e→G none (t::l) (S.un t e)
 | one (k:Nat) (l:List τ) (e:ν):G none l e→G (some k) l e
 | bin (k:Nat) (t:τ) (l l':List τ) (a b:ν):S.lvl t≠0→k≤S.lvl t→G (some (S.lvl t)) l a→G (some (S.lvl t+1)) l' b→G (some k) (l++t::l') (S.bin t a b)
theorem G.mono {k m:Nat} {l:List τ} {e:ν} (h:G S (some m) l e) (hk:k≤m):G S (some k) l e:=by
 cases h with
 | one _ _ _ h=>exact .one _ _ _ h
 | bin _ t l l' a b h0 h1 h2 h3=>exact .bin _ t l l' a b h0 (Nat.le_trans hk h1) h2 h3
inductive St (τ ν:Type) where
 | B (lv:Nat) (l:List τ)
 | L (lv:Nat) (a:ν) (l:List τ)
 | U (l:List τ)
def Stop (lv:Nat) (r:List τ):Prop:=∀ t r',r=t::r'→S.lvl t=0∨S.lvl t<lv
inductive P:St τ ν→Option (ν × List τ)→Prop
 | binN (lv:Nat) (l:List τ):P (.U l) none→P (.B lv l) none
 | bin (lv:Nat) (l r:List τ) (a:ν) (res:Option (ν × List τ)):P (.U l) (some (a,r))→P (.L lv a r) res→P (.B lv l) res
 | stop (lv:Nat) (a:ν) (r:List τ):Stop S lv r→P (.L lv a r) (some (a,r))
 | step (lv:Nat) (a b:ν) (t:τ) (r r':List τ) (res:Option (ν × List τ)):S.lvl t≠0→¬ S.lvl t<lv→P (.B (S.lvl t+1) r) (some (b,r'))→P (.L lv (S.bin t a b) r') res→P (.L lv a (t::r)) res
 | stepN (lv:Nat) (a:ν) (t:τ) (r:List τ):S.lvl t≠0→¬ S.lvl t<lv→P (.B (S.lvl t+1) r) none→P (.L lv a (t::r)) none
 | nil:P (.U []) none
 | un (t:τ) (l:List τ) (res:Option (ν × List τ)):S.isU t=true→P (.U l) res→P (.U (t::l)) (res.map fun x=>(S.un t x.1,x.2))
 | par (t t':τ) (l r:List τ) (e:ν):S.isU t=false→S.isL t=true→P (.B 1 l) (some (e,t'::r))→S.isR t'=true→P (.U (t::l)) (some (e,r))
 | parN (t:τ) (l:List τ) (res:Option (ν × List τ)):S.isU t=false→S.isL t=true→P (.B 1 l) res→(∀ e t' r,res=some (e,t'::r)→S.isR t'=false)→P (.U (t::l)) none
 | atom (t:τ) (l:List τ):S.isU t=false→S.isL t=false→P (.U (t::l)) ((S.atom t).map fun e=>(e,l))
theorem P.det {s:St τ ν} {x y:Option (ν × List τ)} (h:P S s x) (h':P S s y):x=y:=by
 induction h generalizing y with
 | binN lv l h ih =>
   cases h' with
   | binN _ _ h2=>rfl
   | bin _ _ r a _ h2 h3=>exact absurd (ih h2) (by simp)
 | bin lv l r a res h1 h2 ih1 ih2 =>
   cases h' with
   | binN _ _ g2=>exact absurd (ih1 g2) (by simp)
   | bin _ _ r' a' _ g1 g2 =>
     have:=ih1 g1
     simp only [Option.some.injEq,Prod.mk.injEq] at this
     obtain ⟨rfl,rfl⟩:=this
     exact ih2 g2
 | stop lv a r hs =>
   cases h' with
   | stop _ _ _ _=>rfl
   | step _ _ b t r0 r' _ g0 g1 _ _=>rcases hs t r0 rfl with h | h<;>contradiction
   | stepN _ _ t r0 g0 g1 _=>rcases hs t r0 rfl with h | h<;>contradiction
 | step lv a b t r r' res h0 h1 h2 h3 ih2 ih3 =>
   cases h' with
   | stop _ _ _ hs=>rcases hs t r rfl with h | h<;>contradiction
   | step _ _ b' _ _ r'' _ g0 g1 g2 g3 =>
     have:=ih2 g2
     simp only [Option.some.injEq,Prod.mk.injEq] at this
     obtain ⟨rfl,rfl⟩:=this
     exact ih3 g3
   | stepN _ _ _ _ g0 g1 g2=>exact absurd (ih2 g2) (by simp)
 | stepN lv a t r h0 h1 h2 ih2 =>
   cases h' with
   | stop _ _ _ hs=>rcases hs t r rfl with h | h<;>contradiction
   | step _ _ b' _ _ r'' _ g0 g1 g2 g3=>exact absurd (ih2 g2) (by simp)
   | stepN _ _ _ _ g0 g1 g2=>rfl
 | nil=>cases h'; rfl
 | un t l res h0 h1 ih =>
   cases h' with
   | un _ _ res' g0 g1=>rw [ih g1]
   | par _ t' _ r e g0 g1 g2 g3=>rw [h0] at g0; cases g0
   | parN _ _ res' g0 g1 g2 g3=>rw [h0] at g0; cases g0
   | atom _ _ g0 g1=>rw [h0] at g0; cases g0
 | par t t' l r e h0 h1 h2 h3 ih =>
   cases h' with
   | un _ _ res' g0 g1=>rw [h0] at g0; cases g0
   | par _ t'' _ r' e' g0 g1 g2 g3 =>
     have:=ih g2
     simp only [Option.some.injEq,Prod.mk.injEq,List.cons.injEq] at this
     obtain ⟨rfl,rfl,rfl⟩:=this
     rfl
   | parN _ _ res' g0 g1 g2 g3=>rw [g3 e t' r (ih g2).symm] at h3; cases h3
   | atom _ _ g0 g1=>rw [h1] at g1; cases g1
 | parN t l res h0 h1 h2 h3 ih =>
   cases h' with
   | un _ _ res' g0 g1=>rw [h0] at g0; cases g0
   | par _ t'' _ r' e' g0 g1 g2 g3=>rw [h3 e' t'' r' (ih g2)] at g3; cases g3
   | parN _ _ res' g0 g1 g2 g3=>rfl
   | atom _ _ g0 g1=>rw [h1] at g1; cases g1
 | atom t l h0 h1 =>
   cases h' with
   | un _ _ res' g0 g1=>rw [h0] at g0; cases g0
   | par _ t'' _ r' e' g0 g1 g2 g3=>rw [h1] at g1; cases g1
   | parN _ _ res' g0 g1 g2 g3=>rw [h1] at g1; cases g1
   | atom _ _ g0 g1=>rfl
def Sound (s:St τ ν) (res:Option (ν × List τ)):Prop :=
 match s with
 | .B lv l=>∀ e r,res=some (e,r)→∃ l1,l=l1++r∧G S (some lv) l1 e∧Stop S lv r
 | .L lv a r=>∀ e r2,res=some (e,r2)→∀ l0 m,G S (some m) l0 a→lv≤m→(∀ t r',r=t::r'→S.lvl t≤m)→∃ l1,r=l1++r2∧G S (some lv) (l0++l1) e∧Stop S lv r2
 | .U l=>∀ e r,res=some (e,r)→∃ l1,l=l1++r∧G S none l1 e
theorem P.sound {s:St τ ν} {res:Option (ν × List τ)} (h:P S s res):Sound S s res:=by
 induction h with
 | binN lv l h ih=>intro e r he; cases he
 | bin lv l r a res h1 h2 ih1 ih2 =>
   intro e r2 he
   obtain ⟨l1,rfl,hg⟩:=ih1 a r rfl
   obtain ⟨l2,rfl,hg2,hs⟩:=ih2 e r2 he l1 (max lv 7) (.one _ _ _ hg) (Nat.le_max_left _ _) (fun t r' _=>Nat.le_trans (S.lvl_le t) (Nat.le_trans (by omega) (Nat.le_max_right lv 7)))
   exact ⟨l1++l2,by rw [List.append_assoc],hg2,hs⟩
 | stop lv a r hs =>
   intro e r2 he l0 m hg hm _
   cases he
   exact ⟨[],rfl,by rw [List.append_nil]; exact hg.mono S hm,hs⟩
 | step lv a b t r r' res h0 h1 h2 h3 ih2 ih3 =>
   intro e r2 he l0 m hg hm hh
   obtain ⟨l1,rfl,hg1,hs1⟩:=ih2 b r' rfl
   obtain ⟨l2,rfl,hg2,hs2⟩:=ih3 e r2 he (l0++t::l1) (S.lvl t) (.bin _ t l0 l1 a b h0 (Nat.le_refl _) (hg.mono S (hh t _ rfl)) hg1) (by omega) (fun t' r'' hr=>by
    rcases hs1 t' r'' hr with h | h<;>omega)
   exact ⟨t::(l1++l2),by simp,by simpa using hg2,hs2⟩
 | stepN lv a t r h0 h1 h2 ih2=>intro e r2 he; cases he
 | nil=>intro e r he; cases he
 | un t l res h0 h1 ih =>
   intro e r he
   obtain ⟨⟨e',r'⟩,hx,hy⟩:=Option.map_eq_some_iff.1 he
   simp only [Prod.mk.injEq] at hy
   obtain ⟨rfl,rfl⟩:=hy
   obtain ⟨l1,rfl,hg⟩:=ih e' r' hx
   exact ⟨t::l1,rfl,.un t l1 e' h0 hg⟩
 | par t t' l r e h0 h1 h2 h3 ih =>
   intro e' r' he
   simp only [Option.some.injEq,Prod.mk.injEq] at he
   obtain ⟨rfl,rfl⟩:=he
   obtain ⟨l1,rfl,hg,_⟩:=ih e (t'::r) rfl
   exact ⟨t::(l1++[t']),by simp,.par t t' l1 e h1 h3 hg⟩
 | parN t l res h0 h1 h2 h3 ih=>intro e r he; cases he
 | atom t l h0 h1 =>
   intro e r he
   obtain ⟨e',hx,hy⟩:=Option.map_eq_some_iff.1 he
   simp only [Prod.mk.injEq] at hy
   obtain ⟨rfl,rfl⟩:=hy
   exact ⟨[t],rfl,.atom t e' hx⟩
def Found (k:Option Nat) (l:List τ) (e:ν):Prop :=
 match k with
 | none=>∀ r,P S (.U (l++r)) (some (e,r))
 | some k=>∀ lv r res,lv≤k→(∀ t r',r=t::r'→S.lvl t≤k)→P S (.L lv e r) res→P S (.B lv (l++r)) res
theorem G.found {k:Option Nat} {l:List τ} {e:ν} (h:G S k l e):Found S k l e:=by
 induction h with
 | atom t e ha =>
   intro r
   have h0:S.isU t=false:=by
    cases hu:S.isU t with
    | false=>rfl
    | true=>rw [(S.u_ends t hu).2.1] at ha; cases ha
   have h1:S.isL t=false:=by
    cases hu:S.isL t with
    | false=>rfl
    | true=>rw [(S.l_not t hu).2.1] at ha; cases ha
   have:=P.atom (S:=S) t r h0 h1
   rw [ha] at this
   exact this
 | par t t' l e h1 h2 hg ih =>
   intro r
   have h0:S.isU t=false:=by
    cases hu:S.isU t with
    | false=>rfl
    | true=>rw [(S.u_ends t hu).2.2.1] at h1; cases h1
   have hz:S.lvl t'=0:=by
    rcases Nat.eq_zero_or_pos (S.lvl t') with h | h
    · exact h
    · rw [(S.lvl_op t' (by omega)).2.2.2] at h2; cases h2
   have hb:=ih 1 (t'::r) (some (e,t'::r)) (Nat.le_refl _) (fun t2 r2 hr=>by cases hr; omega) (.stop _ _ _ (fun t2 r2 hr=>by cases hr; exact .inl hz))
   have:=P.par (S:=S) t t' (l++t'::r) r e h0 h1 hb h2
   simpa using this
 | un t l e h0 hg ih =>
   intro r
   exact P.un (S:=S) t (l++r) _ h0 (ih r)
 | one k l e hg ih =>
   intro lv r res _ _ hL
   exact .bin lv (l++r) r e res (ih r) hL
 | bin k t l l' a b h0 hk hg1 hg2 ih1 ih2 =>
   intro lv r res hlv hh hL
   rw [List.append_assoc]
   refine ih1 lv _ res (by omega) (fun t2 r2 hr=>by cases hr; exact Nat.le_refl _) ?_
   refine .step lv a b t (l'++r) r res h0 (by omega) ?_ hL
   refine ih2 _ r _ (Nat.le_refl _) (fun t2 r2 hr=>by have:=hh t2 r2 hr; omega) (.stop _ _ _ (fun t2 r2 hr=>?_))
   have:=hh t2 r2 hr
   omega
theorem P.full {l:List τ} {res:Option (ν × List τ)} (h:P S (.B 1 l) res) (e:ν):res=some (e,[])↔G S (some 1) l e:=by
 constructor
 · intro he
   obtain ⟨l1,hl,hg,_⟩:=h.sound S e [] he
   rw [List.append_nil] at hl
   rw [hl]; exact hg
 · intro hg
   have:=hg.found S 1 [] (some (e,[])) (Nat.le_refl _) (fun t r' hr=>by cases hr) (.stop _ _ _ (fun t r' hr=>by cases hr))
   rw [List.append_nil] at this
   exact h.det S this
end
end Go.Proofs.YtkldoojonnkfgaaGreatDoor
namespace Go.Proofs.YtkldoojonnkfgaaGreatDoor
open Go.RowKit Go.Sort
section
variable {τ ν:Type} (S:Lang τ ν)
def dl (t:τ):Int:=(if S.isL t then 1 else 0) - (if S.isR t then 1 else 0)
def scan (pe:Bool) (d:Int) (i:Nat) (best:Option Nat) (lev:Nat):List τ→Option Nat
 | []=>best
 | t::l=>if pe=true∧d+dl S t=0∧S.lvl t≠0∧S.lvl t≤lev then scan (S.ends t) (d+dl S t) (i+1) (some i) (S.lvl t) l else scan (S.ends t) (d+dl S t) (i+1) best lev l
def place (l:List τ):Option Nat:=scan S false 0 0 none 99 l
def cls (d:Int):List τ→Bool
 | []=>decide (d=0)
 | [t]=>decide (d+dl S t=0)
 | t::t'::l=>if d+dl S t≤0 then false else cls (d+dl S t) (t'::l)
inductive T:List τ→Option ν→Prop
 | nil:T [] none
 | split (l l':List τ) (t:τ) (ra rb:Option ν):place S (l++t::l')=some l.length→T l ra→T l' rb→T (l++t::l') (match ra,rb with | some a,some b=>some (S.bin t a b) | _,_=>none)
 | un (t:τ) (l:List τ) (ra:Option ν):place S (t::l)=none→S.isU t=true→T l ra→T (t::l) (ra.map (S.un t))
 | par (t t':τ) (l:List τ) (ra:Option ν):place S (t::(l++[t']))=none→S.isU t=false→S.isL t=true→l≠[]→cls S 0 (t::(l++[t']))=true→T l ra→T (t::(l++[t'])) ra
 | one (t:τ):place S [t]=none→S.isU t=false→T [t] (S.atom t)
 | many (t t':τ) (l:List τ):place S (t::t'::l)=none→S.isU t=false→(S.isL t=true→l≠[]→cls S 0 (t::t'::l)=false)→T (t::t'::l) none
theorem dl_op {t:τ} (h:S.lvl t≠0):dl S t=0:=by
 obtain ⟨_,_,h1,h2⟩:=S.lvl_op t h
 simp [dl,h1,h2]
theorem dl_L {t:τ} (h:S.isL t=true):dl S t=1:=by
 obtain ⟨_,_,h2⟩:=S.l_not t h
 simp [dl,h,h2]
theorem L_of_R {t:τ} (h:S.isR t=true):S.isL t=false:=by
 cases hl:S.isL t with
 | false=>rfl
 | true=>rw [(S.l_not t hl).2.2] at h; cases h
theorem dl_R {t:τ} (h:S.isR t=true):dl S t=-1:=by simp [dl,h,L_of_R S h]
theorem dl_U {t:τ} (h:S.isU t=true):dl S t=0:=by
 obtain ⟨_,_,h1,h2⟩:=S.u_ends t h
 simp [dl,h1,h2]
theorem atom_not {t:τ} {e:ν} (h:S.atom t=some e):S.lvl t=0∧S.isU t=false∧S.isL t=false∧S.isR t=false:=by
 refine ⟨?_,?_,?_,?_⟩
 · rcases Nat.eq_zero_or_pos (S.lvl t) with h0 | h0
   · exact h0
   · rw [(S.lvl_op t (by omega)).2.1] at h; cases h
 · cases hu:S.isU t with
   | false=>rfl
   | true=>rw [(S.u_ends t hu).2.1] at h; cases h
 · cases hu:S.isL t with
   | false=>rfl
   | true=>rw [(S.l_not t hu).2.1] at h; cases h
 · cases hu:S.isR t with
   | false=>rfl
   | true=>rw [(S.r_ends t hu).2] at h; cases h
theorem dl_atom {t:τ} {e:ν} (h:S.atom t=some e):dl S t=0:=by
 obtain ⟨_,_,h1,h2⟩:=atom_not S h
 simp [dl,h1,h2]
theorem lvl_R {t:τ} (h:S.isR t=true):S.lvl t=0:=by
 rcases Nat.eq_zero_or_pos (S.lvl t) with h0 | h0
 · exact h0
 · rw [(S.lvl_op t (by omega)).2.2.2] at h; cases h
theorem G.scan_in {k:Option Nat} {l:List τ} {e:ν} (h:G S k l e):∀ (d:Int),0<d→∀ i best lev r,scan S false d i best lev (l++r)=scan S true d (i+l.length) best lev r:=by
 induction h with
 | atom t e ha =>
   intro d hd i best lev r
   simp [scan,dl_atom S ha,S.a_ends t e ha]
 | par t t' l e h1 h2 hg ih =>
   intro d hd i best lev r
   have:=ih (d+1) (by omega) (i+1) best lev (t'::r)
   simp only [List.cons_append,List.append_assoc,List.nil_append,scan,dl_L S h1,(S.l_not t h1).1,List.length_cons,List.length_append,List.length_nil]
   rw [if_neg (by simp),this]
   simp only [scan,dl_R S h2,(S.r_ends t' h2).1]
   rw [if_neg (by rintro ⟨_,_,h,_⟩; exact h (lvl_R S h2)),show d+1+-1=d by omega,show i+1+l.length+1=i+(l.length+(0+1)+1) by omega]
 | un t l e h0 hg ih =>
   intro d hd i best lev r
   simp only [List.cons_append,scan,dl_U S h0,(S.u_ends t h0).1,List.length_cons]
   rw [if_neg (by simp),show d+0=d by omega,ih d hd,show i+1+l.length=i+(l.length+1) by omega]
 | one k l e hg ih=>exact ih
 | bin k t l l' a b h0 hk hg1 hg2 ih1 ih2 =>
   intro d hd i best lev r
   rw [List.append_assoc,ih1 d hd,List.cons_append]
   simp only [scan,dl_op S h0,(S.lvl_op t h0).1]
   rw [if_neg (by omega),show d+0=d by omega,ih2 d hd]
   congr 1
   simp; omega
theorem G.scan_low {k:Option Nat} {l:List τ} {e:ν} (h:G S k l e):∀ i best lev r,(∀ m,k=some m→lev<m)→scan S false 0 i best lev (l++r)=scan S true 0 (i+l.length) best lev r:=by
 induction h with
 | atom t e ha =>
   intro i best lev r _
   simp [scan,dl_atom S ha,S.a_ends t e ha]
 | par t t' l e h1 h2 hg ih =>
   intro i best lev r _
   have:=hg.scan_in S 1 (by omega) (i+1) best lev (t'::r)
   simp only [List.cons_append,List.append_assoc,List.nil_append,scan,dl_L S h1,(S.l_not t h1).1,List.length_cons,List.length_append,List.length_nil]
   rw [if_neg (by simp),show (0:Int)+1=1 by omega,this]
   simp only [scan,dl_R S h2,(S.r_ends t' h2).1]
   rw [if_neg (by rintro ⟨_,_,h,_⟩; exact h (lvl_R S h2)),show (1:Int)+-1=0 by omega,show i+1+l.length+1=i+(l.length+(0+1)+1) by omega]
 | un t l e h0 hg ih =>
   intro i best lev r _
   simp only [List.cons_append,scan,dl_U S h0,(S.u_ends t h0).1,List.length_cons]
   rw [if_neg (by simp),show (0:Int)+0=0 by omega,ih _ _ _ _ (by intro m hm; cases hm),show i+1+l.length=i+(l.length+1) by omega]
 | one k l e hg ih=>intro i best lev r _; exact ih _ _ _ _ (by intro m hm; cases hm)
 | bin k t l l' a b h0 hk hg1 hg2 ih1 ih2 =>
   intro i best lev r hlev
   have hk2:=hlev k rfl
   rw [List.append_assoc,ih1 _ _ _ _ (by intro m hm; cases hm; omega),List.cons_append]
   simp only [scan,dl_op S h0,(S.lvl_op t h0).1]
   rw [if_neg (by omega),show (0:Int)+0=0 by omega,ih2 _ _ _ _ (by intro m hm; cases hm; omega)]
   congr 1
   simp; omega
theorem G.scan_any {k:Option Nat} {l:List τ} {e:ν} (h:G S k l e):∀ i best lev r m,k=some m→m≤lev→∃ best' lev',m≤lev'∧scan S false 0 i best lev (l++r)=scan S true 0 (i+l.length) best' lev' r:=by
 induction h with
 | atom t e ha=>intro i best lev r m hm; cases hm
 | par t t' l e h1 h2 hg ih=>intro i best lev r m hm; cases hm
 | un t l e h0 hg ih=>intro i best lev r m hm; cases hm
 | one k l e hg ih =>
   intro i best lev r m hm hml
   exact ⟨best,lev,hml,hg.scan_low S i best lev r (by intro m' hm'; cases hm')⟩
 | bin k t l l' a b h0 hk hg1 hg2 ih1 ih2 =>
   intro i best lev r m hm hml
   cases hm
   by_cases hle:S.lvl t≤lev
   · obtain ⟨b1,v1,hv1,e1⟩:=ih1 i best lev (t::(l'++r)) _ rfl hle
     refine ⟨some (i+l.length),S.lvl t,hk,?_⟩
     rw [List.append_assoc,List.cons_append,e1]
     simp only [scan,dl_op S h0,(S.lvl_op t h0).1]
     rw [if_pos ⟨by trivial,by omega,h0,hv1⟩,show (0:Int)+0=0 by omega,hg2.scan_low S _ _ _ _ (by intro m' hm'; cases hm'; omega)]
     congr 1
     simp; omega
   · refine ⟨best,lev,hml,?_⟩
     have:=hg1.scan_low S i best lev (t::(l'++r)) (by intro m' hm'; cases hm'; omega)
     rw [List.append_assoc,List.cons_append,this]
     simp only [scan,dl_op S h0,(S.lvl_op t h0).1]
     rw [if_neg (by omega),show (0:Int)+0=0 by omega,hg2.scan_low S _ _ _ _ (by intro m' hm'; cases hm'; omega)]
     congr 1
     simp; omega
theorem G.cls_in {k:Option Nat} {l:List τ} {e:ν} (h:G S k l e):∀ (d:Int),0<d→∀ t r,cls S d (l++t::r)=cls S d (t::r):=by
 induction h with
 | atom t e ha =>
   intro d hd t2 r
   simp only [List.cons_append,List.nil_append,cls,dl_atom S ha]
   rw [if_neg (by omega),show d+0=d by omega]
 | par t t' l e h1 h2 hg ih =>
   intro d hd t2 r
   have hh:=ih (d+1) (by omega) t' (t2::r)
   cases hl:l++t'::t2::r with
   | nil=>simp at hl
   | cons x y =>
     have e1:t::(l++[t'])++t2::r=t::x::y:=by rw [←hl]; simp
     rw [e1]
     simp only [cls,dl_L S h1]
     rw [if_neg (by omega),←hl,hh]
     simp only [cls,dl_R S h2]
     rw [if_neg (by omega),show d+1+-1=d by omega]
 | un t l e h0 hg ih =>
   intro d hd t2 r
   cases hl:l++t2::r with
   | nil=>simp at hl
   | cons x y =>
     rw [List.cons_append,hl]
     simp only [cls,dl_U S h0]
     rw [if_neg (by omega),←hl,show d+0=d by omega,ih d hd]
 | one k l e hg ih=>exact ih
 | bin k t l l' a b h0 hk hg1 hg2 ih1 ih2 =>
   intro d hd t2 r
   rw [List.append_assoc,List.cons_append,ih1 d hd]
   cases hl:l'++t2::r with
   | nil=>simp at hl
   | cons x y =>
     simp only [cls,dl_op S h0]
     rw [if_neg (by omega),←hl,show d+0=d by omega,ih2 d hd]
theorem G.ne_nil {k:Option Nat} {l:List τ} {e:ν} (h:G S k l e):l≠[]:=by
 cases h with
 | atom=>simp
 | par=>simp
 | un=>simp
 | one _ _ _ h=>cases h<;>simp
 | bin=>simp
theorem scan_from (pe:Bool) (d:Int) (i:Nat) (best:Option Nat) (lev:Nat) (l:List τ):scan S pe d i best lev l=best∨∃ j,i≤j∧scan S pe d i best lev l=some j:=by
 induction l generalizing pe d i best lev with
 | nil=>exact .inl rfl
 | cons t l ih =>
   simp only [scan]
   split
   · rcases ih (S.ends t) (d+dl S t) (i+1) (some i) (S.lvl t) with h | ⟨j,hj,h⟩
     · exact .inr ⟨i,Nat.le_refl _,h⟩
     · exact .inr ⟨j,by omega,h⟩
   · rcases ih (S.ends t) (d+dl S t) (i+1) best lev with h | ⟨j,hj,h⟩
     · exact .inl h
     · exact .inr ⟨j,by omega,h⟩
theorem G.top {l:List τ} {e:ν} (h:G S (some 1) l e) (i:Nat) (best:Option Nat) (lev:Nat):∃ bst lv,(∀ k,k≤lv→k≤lev→G S (some k) l e) ∧
 ((bst=best∧lv=lev∧G S (some (lev+1)) l e)∨(∃ j,i≤j∧j<i+l.length∧bst=some j)∧lv≤lev)∧∀ r,scan S false 0 i best lev (l++r)=scan S true 0 (i+l.length) bst lv r:=by
 cases h with
 | one _ _ _ h=>exact ⟨best,lev,fun k _ _=>.one _ _ _ h,.inl ⟨rfl,rfl,.one _ _ _ h⟩,fun r=>h.scan_low S i best lev r (by intro m hm; cases hm)⟩
 | bin _ t x y a b h0 hk h1 h2 =>
   by_cases hle:S.lvl t≤lev
   · refine ⟨some (i+x.length),S.lvl t,fun k hk _=>.bin _ t x y a b h0 hk h1 h2,.inr ⟨⟨i+x.length,by omega,by simp,rfl⟩,hle⟩,fun r=>?_⟩
     obtain ⟨b1,v1,hv1,e1⟩:=h1.scan_any S i best lev (t::(y++r)) _ rfl hle
     rw [List.append_assoc,List.cons_append,e1]
     simp only [scan,dl_op S h0,(S.lvl_op t h0).1]
     rw [if_pos ⟨by trivial,by omega,h0,hv1⟩,show (0:Int)+0=0 by omega,h2.scan_low S _ _ _ _ (by intro m' hm'; cases hm'; omega)]
     congr 1
     simp; omega
   · have hg:G S (some (lev+1)) (x++t::y) (S.bin t a b):=.bin _ t x y a b h0 (by omega) h1 h2
     exact ⟨best,lev,fun k hk1 hk2=>hg.mono S (by omega),.inl ⟨rfl,rfl,hg⟩,fun r=>hg.scan_low S i best lev r (by intro m hm; cases hm; omega)⟩
theorem T.sound {l:List τ} {res:Option ν} (h:T S l res):∀ e,res=some e→G S (some 1) l e:=by
 induction h with
 | nil=>intro e he; cases he
 | split l l' t ra rb hp h1 h2 ih1 ih2 =>
   intro e he
   cases ra with
   | none=>cases he
   | some a =>
     cases rb with
     | none=>cases he
     | some b =>
       simp only [Option.some.injEq] at he
       subst he
       have g1:=ih1 a rfl
       have g2:=ih2 b rfl
       obtain ⟨bst,lv,hk,hb,hs⟩:=g1.top S 0 none 99
       unfold place at hp
       rw [hs] at hp
       simp only [scan] at hp
       have hbne:bst≠some l.length:=by
        rcases hb with ⟨hb,_,_⟩ | ⟨⟨j,_,hj,hb⟩,_⟩
        · rw [hb]; simp
        · rw [hb]; simp only [ne_eq,Option.some.injEq]; omega
       have hlv:lv≤99:=by rcases hb with ⟨_,hb,_⟩ | ⟨_,hb⟩<;>omega
       split at hp
       · rename_i hc
         obtain ⟨_,hd,h0,hle⟩:=hc
         rw [hd,(S.lvl_op t h0).1] at hp
         obtain ⟨bst2,lv2,hk2,hb2,hs2⟩:=g2.top S (0+l.length+1) (some (0+l.length)) (S.lvl t)
         have:=hs2 []
         rw [List.append_nil] at this
         rw [this] at hp
         simp only [scan] at hp
         have h6:=S.lvl_le t
         rcases hb2 with ⟨_,_,hg2⟩ | ⟨⟨j,hj,_,hb2⟩,_⟩
         · exact .bin _ t l l' a b h0 (by omega) (hk _ hle (by omega)) hg2
         · rw [hb2,Option.some.injEq] at hp; omega
       · rcases scan_from S (S.ends t) (0+dl S t) (0+l.length+1) bst lv l' with h | ⟨j,hj,h⟩
         · rw [h] at hp; exact absurd hp hbne
         · rw [h,Option.some.injEq] at hp; omega
 | un t l ra hp hu h1 ih =>
   intro e he
   obtain ⟨a,ha,rfl⟩:=Option.map_eq_some_iff.1 he
   have g:=ih a ha
   refine .one _ _ _ (.un t l a hu ?_)
   unfold place at hp
   simp only [scan,dl_U S hu,(S.u_ends t hu).1] at hp
   rw [if_neg (by simp),show (0:Int)+0=0 by omega] at hp
   cases g with
   | one _ _ _ g=>exact g
   | bin _ t2 x y a2 b2 h0 hk g1 g2 =>
     obtain ⟨b1,v1,hv1,e1⟩:=g1.scan_any S (0+1) none 99 (t2::y) _ rfl (by have:=S.lvl_le t2; omega)
     have h3:=g2.scan_low S (0+1+x.length+1) (some (0+1+x.length)) (S.lvl t2) [] (by intro m hm; cases hm; omega)
     rw [List.append_nil] at h3
     rw [e1] at hp
     simp only [scan,dl_op S h0,(S.lvl_op t2 h0).1] at hp
     rw [if_pos ⟨by trivial,by omega,h0,hv1⟩,show (0:Int)+0=0 by omega,h3] at hp
     simp [scan] at hp
 | par t t' l ra hp hu hL hne hc h1 ih =>
   intro e he
   have g:=ih e he
   refine .one _ _ _ (.par t t' l e hL ?_ g)
   have hh:=g.cls_in S 1 (by omega) t' []
   cases hl:l++[t'] with
   | nil=>simp at hl
   | cons x y =>
     rw [hl] at hc
     simp only [cls,dl_L S hL] at hc
     rw [if_neg (by omega),show (0:Int)+1=1 by omega,←hl,hh] at hc
     simp only [cls] at hc
     have hc1:1+dl S t'=0:=of_decide_eq_true hc
     unfold dl at hc1
     cases hr:S.isR t' with
     | true=>rfl
     | false =>
       simp only [hr] at hc1
       split at hc1<;>simp at hc1
 | one t hp hu=>intro e he; exact .one _ _ _ (.atom t e he)
 | many t t' l hp hu hc=>intro e he; cases he
end
end Go.Proofs.YtkldoojonnkfgaaGreatDoor
namespace Go.Proofs.YtkldoojonnkfgaaGreatDoor
open Go.RowKit Go.Sort
def up (c:UInt8):UInt8:=if 97≤c.toNat∧c.toNat≤122 then c - 32 else c
def upper (s:ByteArray):ByteArray:=⟨(s.data.toList.map up).toArray⟩
theorem up_toNat (c:UInt8):((up c).toNat:Int)=if 97≤(c.toNat:Int)∧(c.toNat:Int)≤122 then (c.toNat:Int) - 97+65 else c.toNat:=by
 unfold up
 by_cases h:97≤c.toNat∧c.toNat≤122
 · rw [if_pos h,if_pos (by omega)]
   have:(c - 32).toNat=c.toNat - 32:=by
    rw [UInt8.toNat_sub_of_le]; rfl; rw [UInt8.le_iff_toNat_le]; show 32≤c.toNat; omega
   rw [this]; omega
 · rw [if_neg h,if_neg (by omega)]
theorem setCell_alloc_mark (w:World) (C:Array Value) (t:TypeId) (fr:Nat × Nat) (i:Nat) (v:Value) :
 (w.alloc (.cells C t fr)).setCell ⟨w.heap.size,i,none⟩ v=w.alloc (.cells (C.setIfInBounds i v) t fr):=by
 have hm:∀ (a:Array Obj) (x:Obj) (f:Obj→Obj),(a.push x).modify a.size f=a.push (f x):=by
  intro a x f
  apply Array.ext
  · simp
  · intro i h1 h2
    simp only [Array.getElem_modify,Array.getElem_push]
    by_cases h:a.size=i
    · subst h; simp
    · have hi:i<a.size:=by simp at h1; omega
      simp [h,hi]
 show ({ (w.alloc (.cells C t fr)) with heap:=(w.heap.push (.cells C t fr)).modify w.heap.size _ }:World)=_
 rw [hm]
 rfl
theorem t3_0 {p:Prop} (h:p:=by
 go_wp2
 go_roundw
 case rel =>
  refine ⟨k+1,C,by omega,by go_num,rfl,HCm.out,?_⟩
  intro j hj
  rw [HC.out j hj]
  by_cases hjk:j=k
  · subst hjk
    have:=Hup.out
    rw [if_neg (by omega)] at this
    rw [if_neg (by omega),if_pos (by omega),this]
    rw [Hc.out]
  · by_cases hjk2:j<k
    · rw [if_pos hjk2,if_pos (by omega)]
    · rw [if_neg hjk2,if_neg (by omega)]
 case measure=>simp [intOf]; omega):p:=h
set_option maxHeartbeats 1000000 in
theorem upper_any (s:ByteArray) (w:World) (hs:s.size≤maxLen) :
 Calls Tryz.prog 47 #[.string s] w fun e w'=>e=.returned (.string (upper s))∧Below w.heap.size w w':=by
 unfold maxLen at hs
 have hconv:=run_bytes_of_string (P:=Tryz.prog) w 9 79 5 s Tryz.underlying9 Tryz.underlying79 Tryz.underlying5
 obtain ⟨cap,hcap⟩:∃ cap,grownCap w s.size 0 5=cap:=⟨_,rfl⟩
 obtain ⟨C0,hC0⟩:∃ C0,bytesRow s cap=C0:=⟨_,rfl⟩
 have hat:∀ j (hj:j<s.size),C0[j]? = some (.int .u8 (s.data[j].toNat:Int)):=fun j hj=>by rw [←hC0]; exact bytesRow_at s cap j hj
 have hsz:s.size≤C0.size:=by rw [←hC0]; simp [bytesRow]
 rw [hcap,hC0] at hconv
 clear hcap hC0
 obtain ⟨m,hm⟩:∃ m,C0.size=m:=⟨_,rfl⟩
 rw [hm] at hconv
 have Hm:=Hh hm; clear hm
 go_enter Tryz.func47,Tryz.ntmps47
 go_wp2
 go_loopw [4,5,10] (fun _ _ i wr=>∃ (k:Nat) (C:Array Value),k≤s.size∧i=.int .i64 k∧wr=(w.alloc (.cells C 5 (m,m+1))).drew∧C.size=m ∧
  (∀ j (hj:j<s.size),C[j]? = some (.int .u8 ((if j<k then up s.data[j] else s.data[j]).toNat:Int))))
  (fun _ _ i _=>s.size - (intOf i).toNat)
 case atStart=>exact ⟨0,C0,Nat.zero_le _,rfl,rfl,Hm.out,by simpa using hat⟩
 case round =>
  obtain ⟨k,C,hk,rfl,rfl,hCm,hC⟩:=hrel
  by_cases hlt:k<s.size
  · obtain ⟨c,hc⟩:∃ c,(s.data[k].toNat:Int)=c:=⟨_,rfl⟩
    have hupc:=up_toNat s.data[k]
    rw [hc] at hupc
    have hc0:0≤c:=by omega
    have hc1:c≤255:=by have:=s.data[k].toNat_lt; omega
    have hcell:(w.alloc (.cells C 5 (m,m+1))).cell? ⟨w.heap.size,k,none⟩=some (.int .u8 c):=by
     rw [World.cell?_alloc_mark,hC k hlt,if_neg (Nat.lt_irrefl k),hc]
    have hfr:(w.alloc (.cells C 5 (m,m+1))).frozen? ⟨w.heap.size,k,none⟩=false:=by
     rw [World.frozen?_alloc_mark]; have:=Hm.out; simp; omega
    have HC:=Hh hC; clear hC
    have HCm:=Hh hCm; clear hCm
    have Hat:=Hh hat; clear hat
    have Hup:=Hh hupc; clear hupc
    have Hc:=Hh hc; clear hc hconv
    by_cases h1:97≤c
    · by_cases h2:c≤122
      · go_wp2
        go_roundw
        case rel =>
         refine ⟨k+1,C.setIfInBounds k (.int .u8 (c - 97+65)),by omega,by go_num,?_,by rw [Array.size_setIfInBounds]; exact HCm.out,?_⟩
         · rw [setCell_alloc_mark]
         · intro j hj
           rw [Array.getElem?_setIfInBounds]
           by_cases hjk:k=j
           · subst hjk
             have:=HCm.out
             rw [if_pos rfl,if_pos (by rw [this]; have:=Hm.out; omega),if_pos (by omega)]
             have:=Hup.out
             rw [if_pos ⟨h1,h2⟩] at this
             rw [this]
           · rw [if_neg hjk,HC.out j hj]
             by_cases hjk2:j<k
             · rw [if_pos hjk2,if_pos (by omega)]
             · rw [if_neg hjk2,if_neg (by omega)]
        case measure=>simp [intOf]; omega
      · exact t3_0
    · exact t3_0
  · obtain rfl:k=s.size:=by omega
    have hback:=run_convert_bytes_back (P:=Tryz.prog) (w.alloc (.cells C 5 (m,m+1))).drew 79 9 5 ⟨w.heap.size,0,none⟩ cap (s.data.toList.map up) Tryz.underlying79 Tryz.underlying5 Tryz.underlying9 (by
     intro j hj
     have hj':j<s.size:=by simpa using hj
     show (w.alloc (.cells C 5 (m,m+1))).cell? (Addr.add ⟨w.heap.size,0,none⟩ j)=_
     rw [show Addr.add ⟨w.heap.size,0,none⟩ j=⟨w.heap.size,j,none⟩ from by simp [Addr.add,eq_comm],World.cell?_alloc_mark,hC j hj',if_pos hj']
     simp)
    have hl:(s.data.toList.map up).length=s.size:=by simp
    rw [hl] at hback
    have HC:=Hh hC; clear hC hat hconv
    go_wp2
    go_ret
    exact ⟨rfl,((Below.refl _ _).alloc (Nat.le_refl _) _).drew⟩
end Go.Proofs.YtkldoojonnkfgaaGreatDoor
namespace Go.Proofs.YtkldoojonnkfgaaGreatDoor
open Go.RowKit Go.Sort
structure Tok where
 kind:Int
 text:ByteArray
 n:Int
 off:Int
inductive Ex where
 | num (n:Int)
 | sym (s:ByteArray)
 | here
 | un (op:ByteArray) (a:Ex)
 | bin (op:ByteArray) (a b:Ex)
def sMOD:ByteArray:=⟨#[77,79,68]⟩
def tnm (t:Tok):ByteArray:=if t.kind=4 then t.text else if t.kind=1∧(upper t.text).toList=[77,79,68] then sMOD else ⟨#[]⟩
def lvlL (l:List UInt8):Nat :=
 if l=[124] then 1 else if l=[94] then 2 else if l=[38] then 3 else if l=[60,60]∨l=[62,62] then 4 else if l=[43]∨l=[45] then 5 else if l=[42]∨l=[47]∨l=[77,79,68] then 6 else 0
def lvlS (s:ByteArray):Nat:=lvlL s.toList
def tatom (t:Tok):Option Ex :=
 if (tnm t).toList=[36] then some .here
 else if (tnm t).toList≠[] then none
 else if t.kind=1 then some (.sym t.text)
 else if t.kind=2 then some (.num t.n)
 else if t.kind=3∧t.text.toList.length=1 then some (.num ((t.text.toList.headD 0).toNat:Int))
 else none
def tU (t:Tok):Bool:=(tnm t).toList == [45] || (tnm t).toList == [43] || (tnm t).toList == [126]
def tL (t:Tok):Bool:=(tnm t).toList == [40]
def tR (t:Tok):Bool:=(tnm t).toList == [41]
def tends (t:Tok):Bool:=(tnm t).toList == [] || (tnm t).toList == [41] || (tnm t).toList == [36]
theorem lvlL_le (l:List UInt8):lvlL l≤6:=by unfold lvlL; repeat' split
                                            all_goals omega
theorem lvlL_op (l:List UInt8) (h:lvlL l≠0):l=[124]∨l=[94]∨l=[38]∨l=[60,60]∨l=[62,62]∨l=[43]∨l=[45]∨l=[42]∨l=[47]∨l=[77,79,68]:=by
 unfold lvlL at h
 repeat' split at h
 all_goals first | (rename_i h1; rcases h1 with h1 | h1 | h1<;>simp [h1]; done) | (rename_i h1; rcases h1 with h1 | h1<;>simp [h1]; done) | (rename_i h1; simp [h1]; done) | exact absurd rfl h
theorem tatom_of (t:Tok) (e:Ex) (h:tatom t=some e):(tnm t).toList=[36]∨(tnm t).toList=[]:=by
 unfold tatom at h
 split at h
 · left; assumption
 · split at h
   · cases h
   · right; rename_i h2; exact Decidable.of_not_not h2
theorem tatom_none (t:Tok) (h:(tnm t).toList≠[36]) (h2:(tnm t).toList≠[]):tatom t=none:=by
 unfold tatom; rw [if_neg h,if_pos h2]
def exLang:Lang Tok Ex where
 lvl t:=lvlS (tnm t)
 isU:=tU
 isL:=tL
 isR:=tR
 ends:=tends
 atom:=tatom
 un t a:=.un (tnm t) a
 bin t a b:=.bin (tnm t) a b
 lvl_le t:=lvlL_le _
 lvl_op t h:=by
  have:=lvlL_op _ h
  refine ⟨?_,tatom_none t ?_ ?_,?_,?_⟩<;>rcases this with h | h | h | h | h | h | h | h | h | h<;>simp [tends,tL,tR,h]
 u_ends t h:=by
  have:(tnm t).toList=[45]∨(tnm t).toList=[43]∨(tnm t).toList=[126]:=by simpa [tU,or_assoc] using h
  refine ⟨?_,tatom_none t ?_ ?_,?_,?_⟩<;>rcases this with h | h | h<;>simp [tends,tL,tR,h]
 l_not t h:=by
  have h:(tnm t).toList=[40]:=by simpa [tL] using h
  refine ⟨?_,tatom_none t ?_ ?_,?_⟩<;>simp [tends,tR,h]
 r_ends t h:=by
  have h:(tnm t).toList=[41]:=by simpa [tR] using h
  refine ⟨?_,tatom_none t ?_ ?_⟩<;>simp [tends,h]
 a_ends t e h:=by
  rcases tatom_of t e h with h | h<;>simp [tends,h]
def Ex.syms:Ex→List ByteArray
 | .num _=>[]
 | .sym s=>[s]
 | .here=>[]
 | .un _ a=>a.syms
 | .bin _ a b=>a.syms++b.syms
end Go.Proofs.YtkldoojonnkfgaaGreatDoor
namespace Go.Proofs.YtkldoojonnkfgaaGreatDoor
open Go.RowKit Go.Sort
def signIs (t:Tok) (l:List UInt8):Bool:=decide (t.kind=4) && (t.text.toList == l)
def deeperP (t:Tok):Int:=if signIs t [40]=true then 1 else if signIs t [41]=true then -1 else 0
def splitGo:Int→List Tok→List Tok→List (List Tok)
 | _,cur,[]=>[cur]
 | d,cur,t::ts=>if signIs t [44]=true∧d+deeperP t≤0 then cur::splitGo (d+deeperP t) [] ts else splitGo (d+deeperP t) (cur++[t]) ts
def splitP (l:List Tok):List (List Tok):=if l=[] then [] else splitGo 0 [] l
theorem splitGo_ne:∀ (l:List Tok) (d:Int) (cur:List Tok),splitGo d cur l≠[]
 | [],_,_=>by simp [splitGo]
 | t::ts,d,cur=>by
   unfold splitGo
   split
   · simp
   · exact splitGo_ne ts _ _
def sumLen (l:List (List Tok)):Nat:=(l.map List.length).sum
theorem splitGo_sum:∀ (l:List Tok) (d:Int) (cur:List Tok),sumLen (splitGo d cur l)+(splitGo d cur l).length=cur.length+l.length+1
 | [],_,cur=>by simp [splitGo,sumLen]
 | t::ts,d,cur=>by
   unfold splitGo
   split
   · have:=splitGo_sum ts (d+deeperP t) []
     simp only [sumLen,List.map_cons,List.sum_cons,List.length_cons,List.length_nil] at this ⊢
     omega
   · have:=splitGo_sum ts (d+deeperP t) (cur++[t])
     simp only [List.length_append,List.length_cons,List.length_nil] at this ⊢
     omega
theorem splitP_sum {l:List Tok} (h:l≠[]):sumLen (splitP l)+((splitP l).length - 1)=l.length:=by
 unfold splitP
 rw [if_neg h]
 have h1:=splitGo_sum l 0 []
 have h2:0<(splitGo 0 [] l).length:=List.length_pos_iff.2 (splitGo_ne l 0 [])
 simp only [List.length_nil] at h1
 omega
def splitSt (l:List Tok):Int × List (List Tok) × List Tok :=
 l.foldl (fun s t=>if signIs t [44]=true∧s.1+deeperP t≤0 then (s.1+deeperP t,s.2.1++[s.2.2],[]) else (s.1+deeperP t,s.2.1,s.2.2++[t])) (0,[],[])
theorem splitSt_snoc (l:List Tok) (t:Tok):splitSt (l++[t]) =
 if signIs t [44]=true∧(splitSt l).1+deeperP t≤0 then ((splitSt l).1+deeperP t,(splitSt l).2.1++[(splitSt l).2.2],[]) else ((splitSt l).1+deeperP t,(splitSt l).2.1,(splitSt l).2.2++[t]):=by
 unfold splitSt
 rw [List.foldl_append]
 rfl
theorem splitGo_st:∀ (m l:List Tok),(splitSt l).2.1++splitGo (splitSt l).1 (splitSt l).2.2 m=(splitSt (l++m)).2.1++[(splitSt (l++m)).2.2]
 | [],l=>by rw [List.append_nil]; rfl
 | t::ts,l=>by
   have ih:=splitGo_st ts (l++[t])
   rw [List.append_assoc,List.singleton_append] at ih
   rw [←ih,splitSt_snoc]
   conv=>lhs; unfold splitGo
   split
   · simp
   · rfl
theorem splitP_st {l:List Tok} (h:l≠[]):splitP l=(splitSt l).2.1++[(splitSt l).2.2]:=by
 unfold splitP
 rw [if_neg h]
 have:=splitGo_st l []
 simpa [splitSt] using this
def innerGo (n:Nat):Nat→Int→List Tok→Bool
 | _,_,[]=>false
 | i,d,t::ts=>if d+deeperP t≤0 then decide (0<i) && decide (i+1=n) else innerGo n (i+1) (d+deeperP t) ts
def innerP (l:List Tok):Option (List Tok):=if innerGo l.length 0 0 l=true then some ((l.drop 1).take (l.length - 2)) else none
def wordAt (l:List Tok) (i:Nat):ByteArray:=match l[i]? with | some t=>if t.kind=1 then upper t.text else ⟨#[]⟩ | none=>⟨#[]⟩
structure Ar where
 kind:Int
 text:ByteArray
 ex:Option Ex
end Go.Proofs.YtkldoojonnkfgaaGreatDoor
namespace Go.Proofs.YtkldoojonnkfgaaGreatDoor
open Go.RowKit Go.Sort
def Row (w:World) (v:Value) (n:Nat) (xs:List Value):Prop :=
 ∃ a cap,v=.slice a n cap∧n≤cap∧(xs≠[]→∃ g o,a=some ⟨g,o,none⟩∧g<w.heap.size∧∀ j,j<xs.length→w.cell? ⟨g,o+j,none⟩=xs[j]?)
theorem Row.below {w w':World} {v:Value} {n:Nat} {xs:List Value} (h:Row w v n xs) (hb:Below w.heap.size w w'):Row w' v n xs:=by
 obtain ⟨a,cap,hv,hn,h⟩:=h
 refine ⟨a,cap,hv,hn,fun hx=>?_⟩
 obtain ⟨g,o,ha,hg,hc⟩:=h hx
 exact ⟨g,o,ha,Nat.lt_of_lt_of_le hg hb.size,fun j hj=>(hb.cell (p:=⟨g,o+j,none⟩) hg).trans (hc j hj)⟩
theorem Row.nil (w:World):Row w (.slice none 0 0) 0 []:=⟨none,0,rfl,Nat.le_refl _,fun h=>absurd rfl h⟩
theorem Row.of_owns {w:World} {base:Nat} {e:TypeId} {size:Nat} {v:Value} {n:Nat} {xs:List Value} (h:w.ownsRow base e size v n xs):Row w v n xs:=by
 obtain ⟨h1,h2⟩:=h
 rcases h2 with ⟨rfl,rfl⟩ | ⟨g,cap,cur,rfl,hg,hh,hn,hcap,hcur,rfl⟩
 · refine ⟨none,0,rfl,Nat.le_refl _,fun hx=>?_⟩
   rw [Nat.zero_mul] at h1
   exact absurd (List.eq_nil_of_length_eq_zero h1) hx
 · refine ⟨_,cap,rfl,hn,fun hx=>⟨g,0,rfl,lt_of_block hh,fun j hj=>?_⟩⟩
   simp only [World.cell?,hh,Nat.zero_add]
   rw [h1] at hj
   rw [List.getElem?_take_of_lt hj]
   simp
end Go.Proofs.YtkldoojonnkfgaaGreatDoor
namespace Go.Proofs.YtkldoojonnkfgaaGreatDoor
open Go.RowKit Go.Sort
abbrev Op3:=Int × Int × Int
def opc (l:List Op3):List Value:=l.flatMap fun x=>[.int .i64 x.1,.int .i64 x.2.1,.int .i64 x.2.2]
theorem opc_len (l:List Op3):(opc l).length=l.length * 3:=by
 unfold opc
 induction l with
 | nil=>rfl
 | cons a l ih=>simp at ih ⊢; omega
theorem opc_get:∀ (l:List Op3) (i:Nat) (x:Op3),l[i]? = some x→(opc l)[i * 3]? = some (.int .i64 x.1)∧(opc l)[i * 3+1]? = some (.int .i64 x.2.1)∧(opc l)[i * 3+2]? = some (.int .i64 x.2.2)
 | [],i,x,h=>by simp at h
 | a::l,0,x,h=>by
   simp at h; subst h
   exact ⟨rfl,rfl,rfl⟩
 | a::l,i+1,x,h=>by
   have:=opc_get l i x (by simpa using h)
   have e:∀ k,(opc (a::l))[(i+1) * 3+k]? = (opc l)[i * 3+k]? := fun k=>by
    show ([Value.int .i64 a.1,.int .i64 a.2.1,.int .i64 a.2.2]++opc l)[(i+1) * 3+k]? = _
    rw [List.getElem?_append_right (by simp; omega)]
    congr 1
    simp; omega
   refine ⟨?_,?_,?_⟩
   · have:=e 0; simp only [Nat.add_zero] at this; rw [this]; exact (opc_get l i x (by simpa using h)).1
   · rw [e 1]; exact this.2.1
   · rw [e 2]; exact this.2.2
theorem Row.op {w:World} {v:Value} {l:List Op3} (h:Row w v l.length (opc l)):∃ a cap,v=.slice a l.length cap∧l.length≤cap∧(l≠[]→∃ g o,a=some ⟨g,o,none⟩∧g<w.heap.size∧∀ i x,l[i]? = some x →
 w.cell? ⟨g,o+i * 3,none⟩=some (.int .i64 x.1)∧w.cell? ⟨g,o+i * 3+1,none⟩=some (.int .i64 x.2.1)∧w.cell? ⟨g,o+i * 3+2,none⟩=some (.int .i64 x.2.2)):=by
 obtain ⟨a,cap,hv,hn,h⟩:=h
 refine ⟨a,cap,hv,hn,fun hl=>?_⟩
 obtain ⟨g,o,ha,hg,hc⟩:=h (by intro e; apply hl; have:=opc_len l; rw [e] at this; exact List.eq_nil_of_length_eq_zero (by simp at this; omega))
 refine ⟨g,o,ha,hg,fun i x hx=>?_⟩
 have hi:i<l.length:=(List.getElem?_eq_some_iff.1 hx).1
 have hlen:=opc_len l
 obtain ⟨e0,e1,e2⟩:=opc_get l i x hx
 exact ⟨(hc (i * 3) (by omega)).trans e0,by rw [Nat.add_assoc]; exact (hc (i * 3+1) (by omega)).trans e1,by rw [Nat.add_assoc]; exact (hc (i * 3+2) (by omega)).trans e2⟩
end Go.Proofs.YtkldoojonnkfgaaGreatDoor
