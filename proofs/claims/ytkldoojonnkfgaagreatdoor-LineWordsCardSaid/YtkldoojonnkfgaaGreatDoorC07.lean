/- Joined texts: Opers. -/
import Derived.Test.YtkldoojonnkfgaaGreatDoorC01
namespace Go.Proofs.YtkldoojonnkfgaaGreatDoor
open Go.RowKit Go.Sort
open Go.ChangeMaps
@[go_sem] theorem setBlock_size (w:World) (m:Nat) (o:Obj):(setBlock w m o).heap.size=w.heap.size:=by simp [setBlock]
theorem setBlock_alloc (w:World) (m:Nat) (o o':Obj) (h:m<w.heap.size):(setBlock w m o).alloc o'=setBlock (w.alloc o') m o:=by
 have e:(w.heap.setIfInBounds m o).push o'=(w.heap.push o').setIfInBounds m o:=by
  apply Array.ext_getElem?
  intro i
  rw [Array.getElem?_push,Array.getElem?_setIfInBounds,Array.getElem?_setIfInBounds,Array.getElem?_push]
  simp only [Array.size_setIfInBounds,Array.size_push]
  by_cases hi:i=w.heap.size
  · subst hi
    rw [if_pos rfl,if_neg (by omega),if_pos rfl]
  · rw [if_neg hi,if_neg hi]
    by_cases hm:m=i
    · subst hm
      rw [if_pos rfl,if_pos rfl,if_pos h,if_pos (by omega)]
    · rw [if_neg hm,if_neg hm]
 cases w
 simp only [setBlock,World.alloc] at e ⊢
 rw [e]
theorem setBlock_setBlock (w:World) (m:Nat) (o o':Obj):setBlock (setBlock w m o) m o'=setBlock w m o':=by
 simp [setBlock]
theorem setBlock_at (w:World) (m:Nat) (o:Obj) (h:m<w.heap.size):(setBlock w m o).heap[m]? = some o:=by simp [setBlock,h]
theorem setBlock_other (w:World) (m:Nat) (o:Obj) (k:Nat) (h:k≠m):(setBlock w m o).heap[k]? = w.heap[k]? := by
 simp [setBlock,Ne.symm h]
theorem setBlock_same (w:World) (m:Nat) (o:Obj) (h:w.heap[m]? = some o):setBlock w m o=w:=by
 have:w.heap.setIfInBounds m o=w.heap:=by
  apply Array.ext
  · simp
  · intro i h1 h2
    rw [Array.getElem_setIfInBounds]
    split
    · rename_i e; subst e
      rw [Array.getElem?_eq_getElem h2] at h
      exact (Option.some.inj h).symm
    · rfl
 unfold setBlock; rw [this]
theorem setBlock_cell (w:World) (m:Nat) (o:Obj) (b i:Nat) (h:b≠m):(setBlock w m o).cell? ⟨b,i,none⟩=w.cell? ⟨b,i,none⟩:=World.cell?_of_block (w:=w) (setBlock_other w m o b h)
theorem Below.setBlock {B:Nat} {a w:World} (h:Below B a w) {m:Nat} (hm:B≤m) (o:Obj):Below B a (setBlock w m o) :=
 ⟨h.os,h.tape,h.output,by rw [setBlock_size]; exact h.size,fun k hk=>(setBlock_other w m o k (by omega)).trans (h.block k hk)⟩
theorem run_insert (m:Nat) (es es':Array MapEntry) (c:Nat) (k:ByteArray) (v:Value) (W:World) (hm:m<W.heap.size) (hf:Instr.findNow .string (.string k) es.toList 0=some none) (he:es.push ⟨.string k,v,c⟩=es') :
 (Instr.mapUpdate 302 (.map (some m)) (.string k) v).run Tryz.prog (setBlock W m (.map es c))=.ok () (setBlock W m (.map es' (c+1))):=by
 subst he
 have hb:=setBlock_at W m (.map es c) hm
 have hk:=Tryz.underlying9
 have hkey:(Instr.checkKey false 10000 9 (.string k)).run Tryz.prog (setBlock W m (.map es c))=.ok () (setBlock W m (.map es c)):=by
  exact MapKept.run_checkKey (k:=.string k) hk (by simp [MapKept.IsKey]) false 9999
 have hfind:(Instr.findKey 9 (.string k) es.toList).run Tryz.prog (setBlock W m (.map es c))=.ok none (setBlock W m (.map es c)):=by
  simp [Instr.findKey,run_underlying hk,hf]
 simp [Instr.mapUpdate,run_underlying Tryz.underlying302,MapKept.run_getObj_map hb,hkey,hfind,MapKept.run_setObj_map _ hb,Result.andThen]
 exact setBlock_setBlock _ _ _ _
theorem ins0 (m:Nat) (v0:Value) (W:World) (hm:m<W.heap.size):(Instr.mapUpdate 302 (.map (some m)) (.string ⟨#[124]⟩) v0).run Tryz.prog (setBlock W m (.map #[] 0))=.ok () (setBlock W m (.map #[⟨.string ⟨#[124]⟩,v0,0⟩] 1)):=run_insert m #[] #[⟨.string ⟨#[124]⟩,v0,0⟩] 0 ⟨#[124]⟩ v0 W hm (by rfl) rfl
theorem ins1 (m:Nat) (v0 v1:Value) (W:World) (hm:m<W.heap.size):(Instr.mapUpdate 302 (.map (some m)) (.string ⟨#[94]⟩) v1).run Tryz.prog (setBlock W m (.map #[⟨.string ⟨#[124]⟩,v0,0⟩] 1))=.ok () (setBlock W m (.map #[⟨.string ⟨#[124]⟩,v0,0⟩,⟨.string ⟨#[94]⟩,v1,1⟩] 2)):=run_insert m #[⟨.string ⟨#[124]⟩,v0,0⟩] #[⟨.string ⟨#[124]⟩,v0,0⟩,⟨.string ⟨#[94]⟩,v1,1⟩] 1 ⟨#[94]⟩ v1 W hm (by change _=_; kernel_rfl) rfl
theorem ins2 (m:Nat) (v0 v1 v2:Value) (W:World) (hm:m<W.heap.size):(Instr.mapUpdate 302 (.map (some m)) (.string ⟨#[38]⟩) v2).run Tryz.prog (setBlock W m (.map #[⟨.string ⟨#[124]⟩,v0,0⟩,⟨.string ⟨#[94]⟩,v1,1⟩] 2))=.ok () (setBlock W m (.map #[⟨.string ⟨#[124]⟩,v0,0⟩,⟨.string ⟨#[94]⟩,v1,1⟩,⟨.string ⟨#[38]⟩,v2,2⟩] 3)):=run_insert m #[⟨.string ⟨#[124]⟩,v0,0⟩,⟨.string ⟨#[94]⟩,v1,1⟩] #[⟨.string ⟨#[124]⟩,v0,0⟩,⟨.string ⟨#[94]⟩,v1,1⟩,⟨.string ⟨#[38]⟩,v2,2⟩] 2 ⟨#[38]⟩ v2 W hm (by change _=_; kernel_rfl) rfl
theorem ins3 (m:Nat) (v0 v1 v2 v3:Value) (W:World) (hm:m<W.heap.size):(Instr.mapUpdate 302 (.map (some m)) (.string ⟨#[60,60]⟩) v3).run Tryz.prog (setBlock W m (.map #[⟨.string ⟨#[124]⟩,v0,0⟩,⟨.string ⟨#[94]⟩,v1,1⟩,⟨.string ⟨#[38]⟩,v2,2⟩] 3))=.ok () (setBlock W m (.map #[⟨.string ⟨#[124]⟩,v0,0⟩,⟨.string ⟨#[94]⟩,v1,1⟩,⟨.string ⟨#[38]⟩,v2,2⟩,⟨.string ⟨#[60,60]⟩,v3,3⟩] 4)):=run_insert m #[⟨.string ⟨#[124]⟩,v0,0⟩,⟨.string ⟨#[94]⟩,v1,1⟩,⟨.string ⟨#[38]⟩,v2,2⟩] #[⟨.string ⟨#[124]⟩,v0,0⟩,⟨.string ⟨#[94]⟩,v1,1⟩,⟨.string ⟨#[38]⟩,v2,2⟩,⟨.string ⟨#[60,60]⟩,v3,3⟩] 3 ⟨#[60,60]⟩ v3 W hm (by change _=_; kernel_rfl) rfl
theorem ins4 (m:Nat) (v0 v1 v2 v3 v4:Value) (W:World) (hm:m<W.heap.size):(Instr.mapUpdate 302 (.map (some m)) (.string ⟨#[62,62]⟩) v4).run Tryz.prog (setBlock W m (.map #[⟨.string ⟨#[124]⟩,v0,0⟩,⟨.string ⟨#[94]⟩,v1,1⟩,⟨.string ⟨#[38]⟩,v2,2⟩,⟨.string ⟨#[60,60]⟩,v3,3⟩] 4))=.ok () (setBlock W m (.map #[⟨.string ⟨#[124]⟩,v0,0⟩,⟨.string ⟨#[94]⟩,v1,1⟩,⟨.string ⟨#[38]⟩,v2,2⟩,⟨.string ⟨#[60,60]⟩,v3,3⟩,⟨.string ⟨#[62,62]⟩,v4,4⟩] 5)):=run_insert m #[⟨.string ⟨#[124]⟩,v0,0⟩,⟨.string ⟨#[94]⟩,v1,1⟩,⟨.string ⟨#[38]⟩,v2,2⟩,⟨.string ⟨#[60,60]⟩,v3,3⟩] #[⟨.string ⟨#[124]⟩,v0,0⟩,⟨.string ⟨#[94]⟩,v1,1⟩,⟨.string ⟨#[38]⟩,v2,2⟩,⟨.string ⟨#[60,60]⟩,v3,3⟩,⟨.string ⟨#[62,62]⟩,v4,4⟩] 4 ⟨#[62,62]⟩ v4 W hm (by change _=_; kernel_rfl) rfl
theorem ins5 (m:Nat) (v0 v1 v2 v3 v4 v5:Value) (W:World) (hm:m<W.heap.size):(Instr.mapUpdate 302 (.map (some m)) (.string ⟨#[43]⟩) v5).run Tryz.prog (setBlock W m (.map #[⟨.string ⟨#[124]⟩,v0,0⟩,⟨.string ⟨#[94]⟩,v1,1⟩,⟨.string ⟨#[38]⟩,v2,2⟩,⟨.string ⟨#[60,60]⟩,v3,3⟩,⟨.string ⟨#[62,62]⟩,v4,4⟩] 5))=.ok () (setBlock W m (.map #[⟨.string ⟨#[124]⟩,v0,0⟩,⟨.string ⟨#[94]⟩,v1,1⟩,⟨.string ⟨#[38]⟩,v2,2⟩,⟨.string ⟨#[60,60]⟩,v3,3⟩,⟨.string ⟨#[62,62]⟩,v4,4⟩,⟨.string ⟨#[43]⟩,v5,5⟩] 6)):=run_insert m #[⟨.string ⟨#[124]⟩,v0,0⟩,⟨.string ⟨#[94]⟩,v1,1⟩,⟨.string ⟨#[38]⟩,v2,2⟩,⟨.string ⟨#[60,60]⟩,v3,3⟩,⟨.string ⟨#[62,62]⟩,v4,4⟩] #[⟨.string ⟨#[124]⟩,v0,0⟩,⟨.string ⟨#[94]⟩,v1,1⟩,⟨.string ⟨#[38]⟩,v2,2⟩,⟨.string ⟨#[60,60]⟩,v3,3⟩,⟨.string ⟨#[62,62]⟩,v4,4⟩,⟨.string ⟨#[43]⟩,v5,5⟩] 5 ⟨#[43]⟩ v5 W hm (by change _=_; kernel_rfl) rfl
theorem ins6 (m:Nat) (v0 v1 v2 v3 v4 v5 v6:Value) (W:World) (hm:m<W.heap.size):(Instr.mapUpdate 302 (.map (some m)) (.string ⟨#[45]⟩) v6).run Tryz.prog (setBlock W m (.map #[⟨.string ⟨#[124]⟩,v0,0⟩,⟨.string ⟨#[94]⟩,v1,1⟩,⟨.string ⟨#[38]⟩,v2,2⟩,⟨.string ⟨#[60,60]⟩,v3,3⟩,⟨.string ⟨#[62,62]⟩,v4,4⟩,⟨.string ⟨#[43]⟩,v5,5⟩] 6))=.ok () (setBlock W m (.map #[⟨.string ⟨#[124]⟩,v0,0⟩,⟨.string ⟨#[94]⟩,v1,1⟩,⟨.string ⟨#[38]⟩,v2,2⟩,⟨.string ⟨#[60,60]⟩,v3,3⟩,⟨.string ⟨#[62,62]⟩,v4,4⟩,⟨.string ⟨#[43]⟩,v5,5⟩,⟨.string ⟨#[45]⟩,v6,6⟩] 7)):=run_insert m #[⟨.string ⟨#[124]⟩,v0,0⟩,⟨.string ⟨#[94]⟩,v1,1⟩,⟨.string ⟨#[38]⟩,v2,2⟩,⟨.string ⟨#[60,60]⟩,v3,3⟩,⟨.string ⟨#[62,62]⟩,v4,4⟩,⟨.string ⟨#[43]⟩,v5,5⟩] #[⟨.string ⟨#[124]⟩,v0,0⟩,⟨.string ⟨#[94]⟩,v1,1⟩,⟨.string ⟨#[38]⟩,v2,2⟩,⟨.string ⟨#[60,60]⟩,v3,3⟩,⟨.string ⟨#[62,62]⟩,v4,4⟩,⟨.string ⟨#[43]⟩,v5,5⟩,⟨.string ⟨#[45]⟩,v6,6⟩] 6 ⟨#[45]⟩ v6 W hm (by change _=_; kernel_rfl) rfl
theorem ins7 (m:Nat) (v0 v1 v2 v3 v4 v5 v6 v7:Value) (W:World) (hm:m<W.heap.size):(Instr.mapUpdate 302 (.map (some m)) (.string ⟨#[42]⟩) v7).run Tryz.prog (setBlock W m (.map #[⟨.string ⟨#[124]⟩,v0,0⟩,⟨.string ⟨#[94]⟩,v1,1⟩,⟨.string ⟨#[38]⟩,v2,2⟩,⟨.string ⟨#[60,60]⟩,v3,3⟩,⟨.string ⟨#[62,62]⟩,v4,4⟩,⟨.string ⟨#[43]⟩,v5,5⟩,⟨.string ⟨#[45]⟩,v6,6⟩] 7))=.ok () (setBlock W m (.map #[⟨.string ⟨#[124]⟩,v0,0⟩,⟨.string ⟨#[94]⟩,v1,1⟩,⟨.string ⟨#[38]⟩,v2,2⟩,⟨.string ⟨#[60,60]⟩,v3,3⟩,⟨.string ⟨#[62,62]⟩,v4,4⟩,⟨.string ⟨#[43]⟩,v5,5⟩,⟨.string ⟨#[45]⟩,v6,6⟩,⟨.string ⟨#[42]⟩,v7,7⟩] 8)):=run_insert m #[⟨.string ⟨#[124]⟩,v0,0⟩,⟨.string ⟨#[94]⟩,v1,1⟩,⟨.string ⟨#[38]⟩,v2,2⟩,⟨.string ⟨#[60,60]⟩,v3,3⟩,⟨.string ⟨#[62,62]⟩,v4,4⟩,⟨.string ⟨#[43]⟩,v5,5⟩,⟨.string ⟨#[45]⟩,v6,6⟩] #[⟨.string ⟨#[124]⟩,v0,0⟩,⟨.string ⟨#[94]⟩,v1,1⟩,⟨.string ⟨#[38]⟩,v2,2⟩,⟨.string ⟨#[60,60]⟩,v3,3⟩,⟨.string ⟨#[62,62]⟩,v4,4⟩,⟨.string ⟨#[43]⟩,v5,5⟩,⟨.string ⟨#[45]⟩,v6,6⟩,⟨.string ⟨#[42]⟩,v7,7⟩] 7 ⟨#[42]⟩ v7 W hm (by change _=_; kernel_rfl) rfl
theorem ins8 (m:Nat) (v0 v1 v2 v3 v4 v5 v6 v7 v8:Value) (W:World) (hm:m<W.heap.size):(Instr.mapUpdate 302 (.map (some m)) (.string ⟨#[47]⟩) v8).run Tryz.prog (setBlock W m (.map #[⟨.string ⟨#[124]⟩,v0,0⟩,⟨.string ⟨#[94]⟩,v1,1⟩,⟨.string ⟨#[38]⟩,v2,2⟩,⟨.string ⟨#[60,60]⟩,v3,3⟩,⟨.string ⟨#[62,62]⟩,v4,4⟩,⟨.string ⟨#[43]⟩,v5,5⟩,⟨.string ⟨#[45]⟩,v6,6⟩,⟨.string ⟨#[42]⟩,v7,7⟩] 8))=.ok () (setBlock W m (.map #[⟨.string ⟨#[124]⟩,v0,0⟩,⟨.string ⟨#[94]⟩,v1,1⟩,⟨.string ⟨#[38]⟩,v2,2⟩,⟨.string ⟨#[60,60]⟩,v3,3⟩,⟨.string ⟨#[62,62]⟩,v4,4⟩,⟨.string ⟨#[43]⟩,v5,5⟩,⟨.string ⟨#[45]⟩,v6,6⟩,⟨.string ⟨#[42]⟩,v7,7⟩,⟨.string ⟨#[47]⟩,v8,8⟩] 9)):=run_insert m #[⟨.string ⟨#[124]⟩,v0,0⟩,⟨.string ⟨#[94]⟩,v1,1⟩,⟨.string ⟨#[38]⟩,v2,2⟩,⟨.string ⟨#[60,60]⟩,v3,3⟩,⟨.string ⟨#[62,62]⟩,v4,4⟩,⟨.string ⟨#[43]⟩,v5,5⟩,⟨.string ⟨#[45]⟩,v6,6⟩,⟨.string ⟨#[42]⟩,v7,7⟩] #[⟨.string ⟨#[124]⟩,v0,0⟩,⟨.string ⟨#[94]⟩,v1,1⟩,⟨.string ⟨#[38]⟩,v2,2⟩,⟨.string ⟨#[60,60]⟩,v3,3⟩,⟨.string ⟨#[62,62]⟩,v4,4⟩,⟨.string ⟨#[43]⟩,v5,5⟩,⟨.string ⟨#[45]⟩,v6,6⟩,⟨.string ⟨#[42]⟩,v7,7⟩,⟨.string ⟨#[47]⟩,v8,8⟩] 8 ⟨#[47]⟩ v8 W hm (by change _=_; kernel_rfl) rfl
theorem ins9 (m:Nat) (v0 v1 v2 v3 v4 v5 v6 v7 v8 v9:Value) (W:World) (hm:m<W.heap.size):(Instr.mapUpdate 302 (.map (some m)) (.string ⟨#[77,79,68]⟩) v9).run Tryz.prog (setBlock W m (.map #[⟨.string ⟨#[124]⟩,v0,0⟩,⟨.string ⟨#[94]⟩,v1,1⟩,⟨.string ⟨#[38]⟩,v2,2⟩,⟨.string ⟨#[60,60]⟩,v3,3⟩,⟨.string ⟨#[62,62]⟩,v4,4⟩,⟨.string ⟨#[43]⟩,v5,5⟩,⟨.string ⟨#[45]⟩,v6,6⟩,⟨.string ⟨#[42]⟩,v7,7⟩,⟨.string ⟨#[47]⟩,v8,8⟩] 9))=.ok () (setBlock W m (.map #[⟨.string ⟨#[124]⟩,v0,0⟩,⟨.string ⟨#[94]⟩,v1,1⟩,⟨.string ⟨#[38]⟩,v2,2⟩,⟨.string ⟨#[60,60]⟩,v3,3⟩,⟨.string ⟨#[62,62]⟩,v4,4⟩,⟨.string ⟨#[43]⟩,v5,5⟩,⟨.string ⟨#[45]⟩,v6,6⟩,⟨.string ⟨#[42]⟩,v7,7⟩,⟨.string ⟨#[47]⟩,v8,8⟩,⟨.string ⟨#[77,79,68]⟩,v9,9⟩] 10)):=run_insert m #[⟨.string ⟨#[124]⟩,v0,0⟩,⟨.string ⟨#[94]⟩,v1,1⟩,⟨.string ⟨#[38]⟩,v2,2⟩,⟨.string ⟨#[60,60]⟩,v3,3⟩,⟨.string ⟨#[62,62]⟩,v4,4⟩,⟨.string ⟨#[43]⟩,v5,5⟩,⟨.string ⟨#[45]⟩,v6,6⟩,⟨.string ⟨#[42]⟩,v7,7⟩,⟨.string ⟨#[47]⟩,v8,8⟩] #[⟨.string ⟨#[124]⟩,v0,0⟩,⟨.string ⟨#[94]⟩,v1,1⟩,⟨.string ⟨#[38]⟩,v2,2⟩,⟨.string ⟨#[60,60]⟩,v3,3⟩,⟨.string ⟨#[62,62]⟩,v4,4⟩,⟨.string ⟨#[43]⟩,v5,5⟩,⟨.string ⟨#[45]⟩,v6,6⟩,⟨.string ⟨#[42]⟩,v7,7⟩,⟨.string ⟨#[47]⟩,v8,8⟩,⟨.string ⟨#[77,79,68]⟩,v9,9⟩] 9 ⟨#[77,79,68]⟩ v9 W hm (by change _=_; kernel_rfl) rfl
theorem run_made (w:World):(Instr.makeMap 302 none).run Tryz.prog w=.ok (.map (some w.heap.size)) (setBlock (w.alloc (.map #[] 0)) w.heap.size (.map #[] 0)):=by
 rw [setBlock_same _ _ _ (by show (w.heap.push _)[w.heap.size]? = _; simp)]
 simp [Instr.makeMap]
def opEnts (g:Nat):Array MapEntry:=(fun g=>#[⟨.string ⟨#[124]⟩,.agg #[.int .i64 1,.func (.func 341) #[] #[.pointer (some ⟨g+0,0,none⟩)]],0⟩,⟨.string ⟨#[94]⟩,.agg #[.int .i64 2,.func (.func 341) #[] #[.pointer (some ⟨g+1,0,none⟩)]],1⟩,⟨.string ⟨#[38]⟩,.agg #[.int .i64 3,.func (.func 341) #[] #[.pointer (some ⟨g+2,0,none⟩)]],2⟩,⟨.string ⟨#[60,60]⟩,.agg #[.int .i64 4,.func (.func 342) #[] #[.pointer (some ⟨g+3,0,none⟩)]],3⟩,⟨.string ⟨#[62,62]⟩,.agg #[.int .i64 4,.func (.func 342) #[] #[.pointer (some ⟨g+4,0,none⟩)]],4⟩,⟨.string ⟨#[43]⟩,.agg #[.int .i64 5,.func (.func 341) #[] #[.pointer (some ⟨g+5,0,none⟩)]],5⟩,⟨.string ⟨#[45]⟩,.agg #[.int .i64 5,.func (.func 341) #[] #[.pointer (some ⟨g+6,0,none⟩)]],6⟩,⟨.string ⟨#[42]⟩,.agg #[.int .i64 6,.func (.func 341) #[] #[.pointer (some ⟨g+7,0,none⟩)]],7⟩,⟨.string ⟨#[47]⟩,.agg #[.int .i64 6,.func (.func 343) #[] #[.pointer (some ⟨g+8,0,none⟩)]],8⟩,⟨.string ⟨#[77,79,68]⟩,.agg #[.int .i64 6,.func (.func 343) #[] #[.pointer (some ⟨g+9,0,none⟩)]],9⟩]:Nat→Array MapEntry) g
def opFn:Nat→FuncId
 | 0=>280
 | 1=>281
 | 2=>282
 | 3=>284
 | 4=>285
 | 5=>286
 | 6=>287
 | 7=>288
 | 8=>290
 | _=>291
def OpsAt (w:World) (m g:Nat):Prop:=w.heap[m]? = some (.map (opEnts g) 10)∧∀ i,i<10→w.cell? ⟨g+i,0,none⟩=some (.func (.func (opFn i)) #[] #[])
set_option maxHeartbeats 4000000 in
set_option maxRecDepth 100000 in
theorem operators_any (w:World) :
 Calls Tryz.prog 221 #[] w fun e w'=>∃ m g,e=.returned (.map (some m))∧OpsAt w' m g∧Below w.heap.size w w':=by
 have hmf:∀ (fn:Fn) (first cap:Array Value) (w:World),(Instr.makeFunc fn first cap).run Tryz.prog w=.ok (.func fn first cap) w:=fun _ _ _ _=>rfl
 have hmk:=run_made
 have hi0:=ins0 w.heap.size
 have hi1:=ins1 w.heap.size
 have hi2:=ins2 w.heap.size
 have hi3:=ins3 w.heap.size
 have hi4:=ins4 w.heap.size
 have hi5:=ins5 w.heap.size
 have hi6:=ins6 w.heap.size
 have hi7:=ins7 w.heap.size
 have hi8:=ins8 w.heap.size
 have hi9:=ins9 w.heap.size
 have hsa:=setBlock_alloc
 go_enter Tryz.func221,Tryz.ntmps221
 go_wp2
 go_ret
 refine ⟨w.heap.size,w.heap.size+1,rfl,⟨setBlock_at _ _ _ (by (first | omega | (simp [go_sem]; done) | (simp [go_sem]; omega))),?_⟩,Below.setBlock (bl) (Nat.le_refl _) _⟩
 intro i hi
 rw [setBlock_cell _ _ _ _ _ (by omega)]
 have h10:i=0∨i=1∨i=2∨i=3∨i=4∨i=5∨i=6∨i=7∨i=8∨i=9:=by omega
 rcases h10 with rfl | rfl | rfl | rfl | rfl | rfl | rfl | rfl | rfl | rfl<;>simp [go_sem,opFn]
def opIdx (s:ByteArray):Option Nat:=if s == ⟨#[124]⟩ then some 0 else if s == ⟨#[94]⟩ then some 1 else if s == ⟨#[38]⟩ then some 2 else if s == ⟨#[60,60]⟩ then some 3 else if s == ⟨#[62,62]⟩ then some 4 else if s == ⟨#[43]⟩ then some 5 else if s == ⟨#[45]⟩ then some 6 else if s == ⟨#[42]⟩ then some 7 else if s == ⟨#[47]⟩ then some 8 else if s == ⟨#[77,79,68]⟩ then some 9 else none
def opLv:Nat→Nat
 | 0=>1
 | 1=>2
 | 2=>3
 | 3=>4
 | 4=>4
 | 5=>5
 | 6=>5
 | 7=>6
 | 8=>6
 | _=>6
def opCl:Nat→FuncId
 | 0=>341
 | 1=>341
 | 2=>341
 | 3=>342
 | 4=>342
 | 5=>341
 | 6=>341
 | 7=>341
 | 8=>343
 | _=>343
def opVal (g:Nat) (s:ByteArray):Value:=match opIdx s with | some i=>.agg #[.int .i64 (opLv i:Nat),.func (.func (opCl i)) #[] #[.pointer (some ⟨g+i,0,none⟩)]] | none=>.agg #[.int .i64 0,.nilFunc]
theorem ops_find (g:Nat) (s:ByteArray):Instr.findNow .string (.string s) (opEnts g).toList 0=some ((opIdx s).map fun i=>(i,.agg #[.int .i64 (opLv i:Nat),.func (.func (opCl i)) #[] #[.pointer (some ⟨g+i,0,none⟩)]])):=by
 unfold opEnts opIdx
 simp only [Instr.findNow,Instr.sameNow]
 rcases h0:(s == ⟨#[124]⟩) with _ | _; case true=>(simp [opLv,opCl]; done)
 rcases h1:(s == ⟨#[94]⟩) with _ | _; case true=>(simp [opLv,opCl]; done)
 rcases h2:(s == ⟨#[38]⟩) with _ | _; case true=>(simp [opLv,opCl]; done)
 rcases h3:(s == ⟨#[60,60]⟩) with _ | _; case true=>(simp [opLv,opCl]; done)
 rcases h4:(s == ⟨#[62,62]⟩) with _ | _; case true=>(simp [opLv,opCl]; done)
 rcases h5:(s == ⟨#[43]⟩) with _ | _; case true=>(simp [opLv,opCl]; done)
 rcases h6:(s == ⟨#[45]⟩) with _ | _; case true=>(simp [opLv,opCl]; done)
 rcases h7:(s == ⟨#[42]⟩) with _ | _; case true=>(simp [opLv,opCl]; done)
 rcases h8:(s == ⟨#[47]⟩) with _ | _; case true=>(simp [opLv,opCl]; done)
 rcases h9:(s == ⟨#[77,79,68]⟩) with _ | _; case true=>(simp [opLv,opCl]; done)
 simp [opLv,opCl]
theorem field_op (a F:Value) (w:World):(Instr.field 301 (.agg #[a,F]) 0).run Tryz.prog w=.ok a w∧(Instr.field 301 (.agg #[a,F]) 1).run Tryz.prog w=.ok F w:=by
 refine ⟨?_,?_⟩<;>(change _=_; kernel_rfl)
theorem run_look (W:World) (m g:Nat) (s:ByteArray) (hb:W.heap[m]? = some (.map (opEnts g) 10)):(Instr.lookup 302 (.map (some m)) (.string s) false).run Tryz.prog W=.ok (opVal g s) W:=by
 have hk:=Tryz.underlying9
 have hkey:∀ em,(Instr.checkKey em 10000 9 (.string s)).run Tryz.prog W=.ok () W:=fun em=>MapKept.run_checkKey (k:=.string s) hk (by simp [MapKept.IsKey]) em 9999
 have hfind:(Instr.findKey 9 (.string s) (opEnts g).toList).run Tryz.prog W=.ok ((opIdx s).map fun i=>(i,.agg #[.int .i64 (opLv i:Nat),.func (.func (opCl i)) #[] #[.pointer (some ⟨g+i,0,none⟩)]])) W:=by
  simp [Instr.findKey,run_underlying hk,ops_find]
 unfold opVal
 generalize opIdx s=o at hfind ⊢
 cases o with
 | none=>simp [Instr.lookup,run_underlying Tryz.underlying302,MapKept.run_getObj_map hb,hkey,hfind,Result.andThen]
 | some i=>simp [Instr.lookup,run_underlying Tryz.underlying302,MapKept.run_getObj_map hb,hkey,hfind,Result.andThen]
theorem key_eq (s:ByteArray) (l:List UInt8):(s == ⟨l.toArray⟩)=decide (s.toList=l):=by
 have e:(s == ⟨l.toArray⟩)=(s.data == l.toArray):=by cases s; rfl
 rw [e,Bool.eq_iff_iff,beq_iff_eq,decide_eq_true_iff,ByteArray.toList_eq]
 constructor
 · intro h; rw [h]
 · intro h; subst h; simp
theorem opLv_eq (s:ByteArray):lvlS s=match opIdx s with | some i=>opLv i | none=>0:=by
 unfold lvlS lvlL opIdx
 rw [show (s == ⟨#[124]⟩)=decide (s.toList=[124]) from key_eq s [124]]
 rw [show (s == ⟨#[94]⟩)=decide (s.toList=[94]) from key_eq s [94]]
 rw [show (s == ⟨#[38]⟩)=decide (s.toList=[38]) from key_eq s [38]]
 rw [show (s == ⟨#[60,60]⟩)=decide (s.toList=[60,60]) from key_eq s [60,60]]
 rw [show (s == ⟨#[62,62]⟩)=decide (s.toList=[62,62]) from key_eq s [62,62]]
 rw [show (s == ⟨#[43]⟩)=decide (s.toList=[43]) from key_eq s [43]]
 rw [show (s == ⟨#[45]⟩)=decide (s.toList=[45]) from key_eq s [45]]
 rw [show (s == ⟨#[42]⟩)=decide (s.toList=[42]) from key_eq s [42]]
 rw [show (s == ⟨#[47]⟩)=decide (s.toList=[47]) from key_eq s [47]]
 rw [show (s == ⟨#[77,79,68]⟩)=decide (s.toList=[77,79,68]) from key_eq s [77,79,68]]
 generalize s.toList=l
 simp only [decide_eq_true_eq]
 by_cases h0:l=[124]
 · subst h0; rfl
 by_cases h1:l=[94]
 · subst h1; rfl
 by_cases h2:l=[38]
 · subst h2; rfl
 by_cases h3:l=[60,60]
 · subst h3; rfl
 by_cases h4:l=[62,62]
 · subst h4; rfl
 by_cases h5:l=[43]
 · subst h5; rfl
 by_cases h6:l=[45]
 · subst h6; rfl
 by_cases h7:l=[42]
 · subst h7; rfl
 by_cases h8:l=[47]
 · subst h8; rfl
 by_cases h9:l=[77,79,68]
 · subst h9; rfl
 simp [h0,h1,h2,h3,h4,h5,h6,h7,h8,h9]
set_option maxHeartbeats 1000000 in
set_option maxRecDepth 100000 in
theorem level_any (s:ByteArray) (w:World) :
 Calls Tryz.prog 138 #[.string s] w fun e w'=>e=.returned (.int .i64 (lvlS s:Nat))∧Below w.heap.size w w':=by
 have hv:∃ F,∀ g,∃ F,opVal g s=.agg #[.int .i64 (lvlS s:Nat),F]:=⟨0,fun g=>by
  rw [opLv_eq]
  unfold opVal
  cases opIdx s with
  | none=>exact ⟨_,rfl⟩
  | some i=>exact ⟨_,rfl⟩⟩
 obtain ⟨_,hv⟩:=hv
 obtain ⟨L,hL⟩:∃ L,lvlS s=L:=⟨_,rfl⟩
 rw [hL] at hv ⊢
 have HV:=Hh hv; clear hv hL
 go_enter Tryz.func138,Tryz.ntmps138
 go_wp2_with fail
 refine (operators_any _).mono ?_
 rintro e w1 ⟨m,g,rfl,hops,hb⟩
 obtain ⟨F,hF⟩:=HV.out g
 have hlk:=run_look w1 m g s hops.1
 rw [hF] at hlk
 clear hF hops
 have hfl:=fun (a F:Value) (w:World)=>(field_op a F w).1
 go_wp2_with fail
 go_ret
 exact ⟨rfl,hb⟩
end Go.Proofs.YtkldoojonnkfgaaGreatDoor
