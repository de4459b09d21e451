/- Joined texts: OwnMore, WRow, Blk, DirT. -/
import Derived.Test.YtkldoojonnkfgaaGreatDoorC18
import Derived.Test.YtkldoojonnkfgaaGreatDoorC19
namespace Go.Proofs.YtkldoojonnkfgaaGreatDoor
open Go.RowKit Go.Sort
theorem owns_mono {w:World} {b b':Nat} {e:TypeId} {size:Nat} {v:Value} {n:Nat} {xs:List Value} (h:w.ownsRow b e size v n xs) (hb:b'≤b):w.ownsRow b' e size v n xs:=by
 obtain ⟨h1,h2⟩:=h
 refine ⟨h1,?_⟩
 rcases h2 with h2 | ⟨g,cap,cur,hv,hg,r⟩
 · exact Or.inl h2
 · exact Or.inr ⟨g,cap,cur,hv,by omega,r⟩
theorem own_ne {w:World} {b k:Nat} {e:TypeId} {size:Nat} {v:Value} {n:Nat} {xs:List Value} (h:w.ownsRow b e size v n xs) (hk:k<b):some k≠v.ownBlock:=fun q=>by
 rcases h.2 with ⟨h,_⟩ | ⟨g,cap,cur,h,hg,_⟩
 · rw [h] at q; cases q
 · rw [h] at q; have q3:k=g:=Option.some.inj q; omega
theorem owns_slice {w:World} {b:Nat} {e:TypeId} {size:Nat} {v:Value} {n:Nat} {xs:List Value} (h:w.ownsRow b e size v n xs):∃ a c,v=.slice a n c:=by
 obtain ⟨h1,h2⟩:=h
 rcases h2 with ⟨rfl,rfl⟩ | ⟨g,cap,cur,rfl,_⟩
 · exact ⟨none,0,rfl⟩
 · exact ⟨_,_,rfl⟩
def WRow (w:World) (b:Nat) (v:Value) (n:Nat) (xs:List Value):Prop :=
 ∃ a cap,v=.slice a n cap∧n≤cap∧(xs≠[]→∃ g o,a=some ⟨g,o,none⟩∧b≤g∧g<w.heap.size∧(∀ j,j<xs.length→w.cell? ⟨g,o+j,none⟩=xs[j]?)∧∀ j,j<xs.length→w.frozen? ⟨g,o+j,none⟩=false)
theorem WRow.row {w:World} {b:Nat} {v:Value} {n:Nat} {xs:List Value} (h:WRow w b v n xs):Row w v n xs:=by
 obtain ⟨a,cap,hv,hn,h⟩:=h
 exact ⟨a,cap,hv,hn,fun hx=>by obtain ⟨g,o,h1,_,h2,h3,_⟩:=h hx; exact ⟨g,o,h1,h2,h3⟩⟩
theorem WRow.mono {w:World} {b b':Nat} {v:Value} {n:Nat} {xs:List Value} (h:WRow w b v n xs) (hb:b'≤b):WRow w b' v n xs:=by
 obtain ⟨a,cap,hv,hn,h⟩:=h
 exact ⟨a,cap,hv,hn,fun hx=>by obtain ⟨g,o,h1,h0,h2⟩:=h hx; exact ⟨g,o,h1,by omega,h2⟩⟩
theorem WRow.nil (w:World) (b:Nat):WRow w b (.slice none 0 0) 0 []:=⟨none,0,rfl,Nat.le_refl _,fun h=>absurd rfl h⟩
theorem WRow.of_owns {w:World} {b:Nat} {e:TypeId} {size:Nat} {v:Value} {n:Nat} {xs:List Value} (h:w.ownsRow b e size v n xs):WRow w b v n xs:=by
 obtain ⟨h1,h2⟩:=h
 rcases h2 with ⟨rfl,rfl⟩ | ⟨g,cap,cur,rfl,hg,hh,hn,hcap,hcur,rfl⟩
 · rw [Nat.zero_mul] at h1
   obtain rfl:=List.eq_nil_of_length_eq_zero h1
   exact WRow.nil _ _
 · refine ⟨_,cap,rfl,hn,fun hx=>⟨g,0,rfl,hg,lt_of_block hh,fun j hj=>?_,fun j hj=>?_⟩⟩
   · simp only [World.cell?,hh,Nat.zero_add]
     rw [h1] at hj
     rw [List.getElem?_take_of_lt hj]
     simp
   · simp [World.frozen?,hh]
theorem WRow.below {w w':World} {b:Nat} {v:Value} {n:Nat} {xs:List Value} (h:WRow w b v n xs) (hb:Below w.heap.size w w'):WRow w' b v n xs:=by
 obtain ⟨a,cap,hv,hn,h⟩:=h
 refine ⟨a,cap,hv,hn,fun hx=>?_⟩
 obtain ⟨g,o,ha,h0,hg,hc,hf⟩:=h hx
 exact ⟨g,o,ha,h0,Nat.lt_of_lt_of_le hg hb.size,fun j hj=>(hb.cell (p:=⟨g,o+j,none⟩) hg).trans (hc j hj),fun j hj=>(hb.frozen (p:=⟨g,o+j,none⟩) hg).trans (hf j hj)⟩
theorem Kb.frozen {b:Nat} {u w:World} (h:Kb b u w) {p:Addr} (hp:p.block<u.heap.size) (hb:p.block≠b):w.frozen? p=u.frozen? p:=by
 have:=h.block p.block hp hb
 simp only [World.frozen?,this]
theorem WRow.kb {w w':World} {b k:Nat} {v:Value} {n:Nat} {xs:List Value} (h:WRow w b v n xs) (hk:Kb k w w') (hlt:k<b):WRow w' b v n xs:=by
 obtain ⟨a,cap,hv,hn,h⟩:=h
 refine ⟨a,cap,hv,hn,fun hx=>?_⟩
 obtain ⟨g,o,ha,h0,hg,hc,hf⟩:=h hx
 exact ⟨g,o,ha,h0,Nat.lt_of_lt_of_le hg hk.size,fun j hj=>(hk.cell (p:=⟨g,o+j,none⟩) hg (by show g≠k; omega)).trans (hc j hj),fun j hj=>(hk.frozen (p:=⟨g,o+j,none⟩) hg (by show g≠k; omega)).trans (hf j hj)⟩
theorem Row.kb {w w':World} {b k:Nat} {v:Value} {n:Nat} {xs:List Value} (h:WRow w b v n xs) (hk:Kb k w w') (hlt:k<b):Row w' v n xs:=(h.kb hk hlt).row
theorem WRow.set {w:World} {b g o i cap n:Nat} {xs:List Value} {u:Value} (h:WRow w b (.slice (some ⟨g,o,none⟩) n cap) n xs) (hi:i<xs.length) :
 WRow (w.setCell ⟨g,o+i,none⟩ u) b (.slice (some ⟨g,o,none⟩) n cap) n (xs.set i u):=by
 obtain ⟨a,c,hv,hn,h⟩:=h
 cases hv
 refine ⟨_,_,rfl,hn,fun _=>?_⟩
 obtain ⟨g',o',ha,h0,hg,hc,hf⟩:=h (by intro e; rw [e] at hi; simp at hi)
 cases ha
 refine ⟨g,o,rfl,h0,by show _<(w.heap.modify _ _).size; rw [Array.size_modify]; exact hg,fun j hj=>?_,fun j hj=>?_⟩
 · rw [List.length_set] at hj
   by_cases e:j=i
   · subst e
     rw [World.cell?_setCell_same _ _ _ ((hc j hj).trans (List.getElem?_eq_getElem hj)),List.getElem?_set_self hj]
   · rw [World.cell?_setCell_other _ _ _ _ (by first | (simp; done) | (simp; omega)),hc j hj,List.getElem?_set_ne (fun q=>e q.symm)]
 · rw [List.length_set] at hj
   rw [World.frozen?_setCell]; exact hf j hj
theorem WRow.op {w:World} {b:Nat} {v:Value} {l:List Op3} (h:WRow w b v l.length (opc l)):∃ a cap,v=.slice a l.length cap∧l.length≤cap∧(l≠[]→∃ g o,a=some ⟨g,o,none⟩∧b≤g∧g<w.heap.size∧∀ i x,l[i]? = some x →
 w.cell? ⟨g,o+i * 3,none⟩=some (.int .i64 x.1)∧w.cell? ⟨g,o+i * 3+1,none⟩=some (.int .i64 x.2.1)∧w.cell? ⟨g,o+i * 3+2,none⟩=some (.int .i64 x.2.2)∧w.frozen? ⟨g,o+i * 3,none⟩=false∧w.frozen? ⟨g,o+i * 3+1,none⟩=false∧w.frozen? ⟨g,o+i * 3+2,none⟩=false):=by
 obtain ⟨a,cap,hv,hn,h⟩:=h
 refine ⟨a,cap,hv,hn,fun hl=>?_⟩
 obtain ⟨g,o,ha,h0,hg,hc,hf⟩:=h (by intro e; apply hl; have:=opc_len l; rw [e] at this; exact List.eq_nil_of_length_eq_zero (by simp at this; omega))
 refine ⟨g,o,ha,h0,hg,fun i x hx=>?_⟩
 have hi:i<l.length:=(List.getElem?_eq_some_iff.1 hx).1
 have hlen:=opc_len l
 obtain ⟨e0,e1,e2⟩:=opc_get l i x hx
 have f1:=hf (i * 3+1) (by omega)
 have f2:=hf (i * 3+2) (by omega)
 rw [←Nat.add_assoc] at f1 f2
 exact ⟨(hc (i * 3) (by omega)).trans e0,by rw [Nat.add_assoc]; exact (hc (i * 3+1) (by omega)).trans e1,by rw [Nat.add_assoc]; exact (hc (i * 3+2) (by omega)).trans e2,hf (i * 3) (by omega),f1,f2⟩
theorem opc_set:∀ (l:List Op3) (i:Nat) (x:Op3) (m:Int),l[i]? = some x→(opc l).set (i * 3+2) (.int .i64 m)=opc (l.set i (x.1,x.2.1,m))
 | [],i,x,m,h=>by simp at h
 | a::l,0,x,m,h=>by
   simp at h; subst h
   rfl
 | a::l,i+1,x,m,h=>by
   have ih:=opc_set l i x m (by simpa using h)
   show ([Value.int .i64 a.1,.int .i64 a.2.1,.int .i64 a.2.2]++opc l).set ((i+1) * 3+2) (.int .i64 m)=_
   rw [show (i+1) * 3+2=(i * 3+2)+3 by omega]
   show Value.int .i64 a.1::.int .i64 a.2.1::.int .i64 a.2.2::(opc l).set (i * 3+2) (.int .i64 m)=_
   rw [ih]
   rfl
theorem WRow.setN {w:World} {b g o cap i:Nat} {l:List Op3} {x:Op3} {m:Int} (h:WRow w b (.slice (some ⟨g,o,none⟩) l.length cap) l.length (opc l)) (hx:l[i]? = some x) :
 WRow (w.setCell ⟨g,o+i * 3+2,none⟩ (.int .i64 m)) b (.slice (some ⟨g,o,none⟩) l.length cap) l.length (opc (l.set i (x.1,x.2.1,m))):=by
 have hi:i<l.length:=(List.getElem?_eq_some_iff.1 hx).1
 rw [←opc_set l i x m hx,Nat.add_assoc]
 exact h.set (by rw [opc_len]; omega)
theorem opc_setAll:∀ (l:List Op3) (i:Nat) (x:Op3),i<l.length→(((opc l).set (i * 3) (.int .i64 x.1)).set (i * 3+1) (.int .i64 x.2.1)).set (i * 3+2) (.int .i64 x.2.2)=opc (l.set i x)
 | [],i,x,h=>by simp at h
 | a::l,0,x,_=>rfl
 | a::l,i+1,x,h=>by
   have ih:=opc_setAll l i x (by simpa using h)
   rw [show (i+1) * 3=i * 3+3 by omega]
   show Value.int .i64 a.1::.int .i64 a.2.1::.int .i64 a.2.2::(((opc l).set (i * 3) (.int .i64 x.1)).set (i * 3+1) (.int .i64 x.2.1)).set (i * 3+2) (.int .i64 x.2.2)=_
   rw [ih]
   rfl
theorem WRow.setO {w:World} {b g o cap i:Nat} {l:List Op3} {x:Op3} (h:WRow w b (.slice (some ⟨g,o,none⟩) l.length cap) l.length (opc l)) (hi:i<l.length) :
 WRow (((w.setCell ⟨g,o+i * 3,none⟩ (.int .i64 x.1)).setCell ⟨g,o+i * 3+1,none⟩ (.int .i64 x.2.1)).setCell ⟨g,o+i * 3+2,none⟩ (.int .i64 x.2.2)) b (.slice (some ⟨g,o,none⟩) l.length cap) l.length (opc (l.set i x)):=by
 rw [←opc_setAll l i x hi,Nat.add_assoc,Nat.add_assoc]
 have hlen:=opc_len l
 exact ((h.set (i:=i * 3) (by omega)).set (i:=i * 3+1) (by rw [List.length_set]; omega)).set (i:=i * 3+2) (by rw [List.length_set,List.length_set]; omega)
@[go_sem] theorem setCell_size (w:World) (a:Addr) (v:Value):(w.setCell a v).heap.size=w.heap.size:=by show (w.heap.modify _ _).size=_; rw [Array.size_modify]
theorem box_kept {w w2:World} {o:Obj} (hb:Below (w.alloc o).heap.size (w.alloc o) w2):w2.heap[w.heap.size]? = some o:=(hb.block _ (by simp)).trans (by show (w.heap.push o)[w.heap.size]? = _; simp)
theorem cells3 {w:World} {b:Nat} {x y z:Value} {T:TypeId} (h:w.heap[b]? = some (.cells #[x,y,z] T (0,0))) :
 w.cell? ⟨b,0,none⟩=some x∧w.cell? ⟨b,1,none⟩=some y∧w.cell? ⟨b,2,none⟩=some z∧w.frozen? ⟨b,0,none⟩=false∧w.frozen? ⟨b,1,none⟩=false∧w.frozen? ⟨b,2,none⟩=false:=by
 refine ⟨?_,?_,?_,?_,?_,?_⟩<;>simp [World.cell?,World.frozen?,h]
theorem cells2 {w:World} {b:Nat} {x y:Value} {T:TypeId} (h:w.heap[b]? = some (.cells #[x,y] T (0,0))) :
 w.cell? ⟨b,0,none⟩=some x∧w.cell? ⟨b,1,none⟩=some y∧w.frozen? ⟨b,0,none⟩=false∧w.frozen? ⟨b,1,none⟩=false:=by
 refine ⟨?_,?_,?_,?_⟩<;>simp [World.cell?,World.frozen?,h]
theorem cells6 {w:World} {b:Nat} {x0 x1 x2 x3 x4 x5:Value} {T:TypeId} (h:w.heap[b]? = some (.cells #[x0,x1,x2,x3,x4,x5] T (0,0))) :
 (w.cell? ⟨b,0,none⟩=some x0∧w.cell? ⟨b,1,none⟩=some x1∧w.cell? ⟨b,2,none⟩=some x2∧w.cell? ⟨b,3,none⟩=some x3∧w.cell? ⟨b,4,none⟩=some x4∧w.cell? ⟨b,5,none⟩=some x5) ∧
 w.frozen? ⟨b,0,none⟩=false∧w.frozen? ⟨b,1,none⟩=false∧w.frozen? ⟨b,2,none⟩=false∧w.frozen? ⟨b,3,none⟩=false∧w.frozen? ⟨b,4,none⟩=false∧w.frozen? ⟨b,5,none⟩=false:=by
 refine ⟨⟨?_,?_,?_,?_,?_,?_⟩,?_,?_,?_,?_,?_,?_⟩<;>simp [World.cell?,World.frozen?,h]
theorem below_of_alloc {w w2:World} {o:Obj} (hb:Below (w.alloc o).heap.size (w.alloc o) w2):Below w.heap.size w w2:=((Below.refl _ _).alloc (Nat.le_refl _) o).trans (hb.mono (by simp))
theorem blk_set {w:World} {b i:Nat} {C:Array Value} {T:TypeId} {v:Value} (h:w.heap[b]? = some (.cells C T (0,0))):(w.setCell ⟨b,i,none⟩ v).heap[b]? = some (.cells (C.setIfInBounds i v) T (0,0)):=by
 show (w.heap.modify b _)[b]? = _
 rw [Array.getElem?_eq_getElem (by rw [Array.size_modify]; exact (Array.getElem?_eq_some_iff.1 h).1),Array.getElem_modify_self,(Array.getElem?_eq_some_iff.1 h).2]
 rfl
theorem blk_other {w:World} {b k i:Nat} {o:Obj} {v:Value} (h:w.heap[k]? = some o) (hne:k≠b):(w.setCell ⟨b,i,none⟩ v).heap[k]? = some o:=(Below.heap_setCell w ⟨b,i,none⟩ v k hne).trans h
theorem blk_alloc {w:World} {k:Nat} {o o':Obj} (h:w.heap[k]? = some o):(w.alloc o').heap[k]? = some o:=(Below.heap_alloc w o' k (Array.getElem?_eq_some_iff.1 h).1).trans h
theorem blk_below {w w':World} {k n:Nat} {o:Obj} (h:w.heap[k]? = some o) (hb:Below n w w') (hk:k<n):w'.heap[k]? = some o:=(hb.block k hk).trans h
theorem blk_new (w:World) (o:Obj):(w.alloc o).heap[w.heap.size]? = some o:=by show (w.heap.push o)[w.heap.size]? = _; simp
theorem blk_lt {w:World} {k:Nat} {o:Obj} (h:w.heap[k]? = some o):k<w.heap.size:=(Array.getElem?_eq_some_iff.1 h).1
theorem blk_cell {w:World} {b:Nat} {C:Array Value} {T:TypeId} (h:w.heap[b]? = some (.cells C T (0,0))) (i:Nat):w.cell? ⟨b,i,none⟩=C[i]? := by simp [World.cell?,h]
theorem blk_frozen {w:World} {b:Nat} {C:Array Value} {T:TypeId} (h:w.heap[b]? = some (.cells C T (0,0))) (i:Nat):w.frozen? ⟨b,i,none⟩=false:=by simp [World.frozen?,h]
theorem owns_set {w:World} {base g i cap n size:Nat} {e:TypeId} {xs:List Value} {u:Value} (h:w.ownsRow base e size (.slice (some ⟨g,0,none⟩) n cap) n xs) (_hi:i<xs.length) :
 (w.setCell ⟨g,i,none⟩ u).ownsRow base e size (.slice (some ⟨g,0,none⟩) n cap) n (xs.set i u):=by
 obtain ⟨h1,h2⟩:=h
 refine ⟨by rw [List.length_set]; exact h1,?_⟩
 rcases h2 with ⟨h2,_⟩ | ⟨g',cap',cur,hv,hg,hh,hn,hcap,hcur,ht⟩
 · cases h2
 · cases hv
   refine .inr ⟨g,cap,cur.setIfInBounds i u,rfl,hg,blk_set hh,hn,hcap,by rw [Array.size_setIfInBounds]; exact hcur,?_⟩
   rw [Array.toList_setIfInBounds,List.take_set,ht]
theorem owns_setO {w:World} {base g i cap n:Nat} {e:TypeId} {l:List Op3} {x:Op3} (h:w.ownsRow base e 3 (.slice (some ⟨g,0,none⟩) n cap) n (opc l)) (hi:i<l.length) :
 (((w.setCell ⟨g,i * 3,none⟩ (.int .i64 x.1)).setCell ⟨g,i * 3+1,none⟩ (.int .i64 x.2.1)).setCell ⟨g,i * 3+2,none⟩ (.int .i64 x.2.2)).ownsRow base e 3 (.slice (some ⟨g,0,none⟩) n cap) n (opc (l.set i x)):=by
 rw [←opc_setAll l i x hi]
 have hlen:=opc_len l
 exact owns_set (owns_set (owns_set h (by omega)) (by rw [List.length_set]; omega)) (by rw [List.length_set,List.length_set]; omega)
theorem between_any (lo hi:Int) (w:World):Calls Tryz.prog 144 #[.int .i64 lo,.int .i64 hi] w fun e w'=>e=.returned (.func (.func 228) #[] #[.pointer (some ⟨w.heap.size,0,none⟩),.pointer (some ⟨w.heap.size+1,0,none⟩)])∧w'=(w.alloc (.cells #[.int .i64 lo] 3)).alloc (.cells #[.int .i64 hi] 3):=by
 go_enter Tryz.func144,Tryz.ntmps144
 go_wp2_with fail
 go_ret
 exact ⟨by simp,rfl⟩
def dirHi (u:List UInt8):Int:=if u=wDEFB∨u=wDEFW then 1024 else if u=wDEFS then 2 else 1
def FV (hi:Int) (v:Value) (w:World):Prop:=∃ p q,v=.func (.func 228) #[] #[.pointer (some ⟨p,0,none⟩),.pointer (some ⟨q,0,none⟩)]∧w.heap[p]? = some (.cells #[.int .i64 1] 3 (0,0))∧w.heap[q]? = some (.cells #[.int .i64 hi] 3 (0,0))
def DV (u:List UInt8) (v:Value) (w:World):Prop:=∃ fv,v=.agg #[.string ⟨u.toArray⟩,.bool (decide (u=wDEFB)),fv]∧FV (dirHi u) fv w
theorem FV.keep {hi:Int} {v:Value} {w w':World} (h:FV hi v w) (k:KCells w w'):FV hi v w':=by
 obtain ⟨p,q,hv,h1,h2⟩:=h
 exact ⟨p,q,hv,k.2 _ _ _ _ h1,k.2 _ _ _ _ h2⟩
theorem DV.keep {u:List UInt8} {v:Value} {w w':World} (h:DV u v w) (k:KCells w w'):DV u v w':=by
 obtain ⟨fv,hv,h⟩:=h
 exact ⟨fv,hv,h.keep k⟩
theorem DV.below {u:List UInt8} {v:Value} {w w':World} (h:DV u v w) (hb:Below w.heap.size w w'):DV u v w':=h.keep (.of_below hb)
def dirC (i:Nat):MOp:=match i with
 | 0=>.mk
 | 3=>.ins ⟨#[79,82,71]⟩ 2
 | 6=>.ins ⟨#[69,81,85]⟩ 5
 | 8=>.ins ⟨#[68,69,70,66]⟩ 7
 | 10=>.ins ⟨#[68,66]⟩ 9
 | 12=>.ins ⟨#[68,69,70,87]⟩ 11
 | 14=>.ins ⟨#[68,87]⟩ 13
 | 16=>.ins ⟨#[68,69,70,83]⟩ 15
 | 18=>.ins ⟨#[68,83]⟩ 17
 | 2=>.val [1]
 | 5=>.val [4]
 | 19=>.mv 0
 | 20=>.mv 19
 | _=>.val []
def dirD (i:Nat):Tmp:=match i with
 | 0=>10
 | 1=>11
 | 2=>12
 | 4=>13
 | 5=>14
 | 7=>15
 | 9=>16
 | 11=>17
 | 13=>18
 | 15=>19
 | 17=>20
 | 19=>21
 | 20=>0
 | _=>22
def dirV (i:Nat) (v:Value) (w:World):Prop:=match i with
 | 1=>FV 1 v w
 | 4=>FV 1 v w
 | 2=>DV wORG v w
 | 5=>DV wEQU v w
 | 7=>DV wDEFB v w
 | 9=>DV wDEFB v w
 | 11=>DV wDEFW v w
 | 13=>DV wDEFW v w
 | 15=>DV wDEFS v w
 | 17=>DV wDEFS v w
 | _=>False
theorem dirV_keep (i:Nat) (v:Value) (w w':World) (h:dirV i v w) (k:KCells w w'):dirV i v w':=by
 unfold dirV at h ⊢
 split at h<;>first | exact FV.keep h k | exact DV.keep h k | exact h
theorem dirC_puts:∀ i,i<21→(dirC i).puts=true→dirD i<22∧dirD i≠1∧dirD i≠2∧dirD i≠3:=by decide
theorem dirC_inj:∀ i,i<21→∀ j,j<21→(dirC i).puts=true→(dirC j).puts=true→dirD i=dirD j→i=j:=by decide
def dirK (i:Nat):Option (List UInt8):=match dirC i with | .ins k _=>some k.data.toList | _=>none
theorem dirC_big (i:Nat) (h:21≤i):dirC i=.val []:=by
 unfold dirC
 split<;>first | omega | rfl
theorem dirK_inj:∀ i,i<21→∀ j,j<21→(dirK i).isSome=true→dirK i=dirK j→i=j:=by decide
theorem dirC_keys (i j:Nat) (k:ByteArray) (s s':Nat) (hi:dirC i=.ins k s) (hj:dirC j=.ins k s'):i=j:=by
 have h1:dirK i=some k.data.toList:=by unfold dirK; rw [hi]
 have h2:dirK j=some k.data.toList:=by unfold dirK; rw [hj]
 have hi21:i<21:=by
  rcases Nat.lt_or_ge i 21 with h | h
  · exact h
  · rw [dirC_big i h] at hi; cases hi
 have hj21:j<21:=by
  rcases Nat.lt_or_ge j 21 with h | h
  · exact h
  · rw [dirC_big j h] at hj; cases hj
 exact dirK_inj i hi21 j hj21 (by rw [h1]; rfl) (h1.trans h2.symm)
structure DirA (b:Nat) (a:Act):Prop where
 defers:a.defers=[]
 size:a.tmps.size=22
 t1:a.tmps[1]?.getD undef=.pointer (some ⟨b,0,none⟩)
 t2:a.tmps[2]?.getD undef=.pointer (some ⟨b+3,0,none⟩)
 t3:a.tmps[3]?.getD undef=.pointer (some ⟨b+6,0,none⟩)
theorem DirA.put {b:Nat} {a:Act} (h:DirA b a) (t:Tmp) (v:Value) (h0:t<22) (h1:t≠1) (h2:t≠2) (h3:t≠3):DirA b (a.put (some t) v)∧(a.put (some t) v).tmps.getD t undef=v:=by
 refine ⟨⟨h.defers,?_,?_,?_,?_⟩,?_⟩
 · show (a.tmps.setIfInBounds t v).size=22
   rw [Array.size_setIfInBounds]; exact h.size
 · show (a.tmps.setIfInBounds t v)[1]?.getD undef=_
   rw [Array.getElem?_setIfInBounds_ne h1]; exact h.t1
 · show (a.tmps.setIfInBounds t v)[2]?.getD undef=_
   rw [Array.getElem?_setIfInBounds_ne h2]; exact h.t2
 · show (a.tmps.setIfInBounds t v)[3]?.getD undef=_
   rw [Array.getElem?_setIfInBounds_ne h3]; exact h.t3
 · show (a.tmps.setIfInBounds t v).getD t undef=v
   have:=h.size
   simp [this,h0]
def DirMap (l:List (ByteArray × Value)) (w:World):Prop :=
 (∀ k v,sget l k=some v→dirU k.data.toList≠[]∧DV (dirU k.data.toList) v w)∧∀ k,dirU k.data.toList≠[]→∃ v,sget l k=some v
theorem dirC_val {i:Nat} {ds:List Nat} (hi:i<21) (h:dirC i=.val ds):(i=1∧ds=[])∨(i=2∧ds=[1])∨(i=4∧ds=[])∨(i=5∧ds=[4])∨(i=7∧ds=[])∨(i=9∧ds=[])∨(i=11∧ds=[])∨(i=13∧ds=[])∨(i=15∧ds=[])∨(i=17∧ds=[]):=by
 rcases (by omega:i=0∨i=1∨i=2∨i=3∨i=4∨i=5∨i=6∨i=7∨i=8∨i=9∨i=10∨i=11∨i=12∨i=13∨i=14∨i=15∨i=16∨i=17∨i=18∨i=19∨i=20) with rfl | rfl | rfl | rfl | rfl | rfl | rfl | rfl | rfl | rfl | rfl | rfl | rfl | rfl | rfl | rfl | rfl | rfl | rfl | rfl | rfl<;>first | (simp [dirC] at h; done) | (simp [dirC] at h; subst h; simp)
theorem dirC_mk {i:Nat} (h:dirC i=.mk):i=0:=by
 unfold dirC at h
 split at h<;>first | rfl | cases h
theorem dirC_ins {i s:Nat} {k:ByteArray} (h:dirC i=.ins k s):(i=3∧k=⟨#[79,82,71]⟩∧s=2)∨(i=6∧k=⟨#[69,81,85]⟩∧s=5)∨(i=8∧k=⟨#[68,69,70,66]⟩∧s=7)∨(i=10∧k=⟨#[68,66]⟩∧s=9)∨(i=12∧k=⟨#[68,69,70,87]⟩∧s=11)∨(i=14∧k=⟨#[68,87]⟩∧s=13)∨(i=16∧k=⟨#[68,69,70,83]⟩∧s=15)∨(i=18∧k=⟨#[68,83]⟩∧s=17):=by
 unfold dirC at h
 split at h<;>cases h<;>simp
theorem dirC_mv {i s:Nat} (h:dirC i=.mv s):(i=19∧s=0)∨(i=20∧s=19):=by
 unfold dirC at h
 split at h<;>cases h<;>simp
theorem edges_before {ops:Array Oper} (h:((List.range ops.size).all fun i=>((ops[i]?).map fun o=>o.after.all fun e=>decide (e.on<i)).getD true)=true) (i:Nat) (o:Oper) (ho:ops[i]? = some o):∀ e∈o.after,e.on<i:=by
 intro e he
 rw [List.all_eq_true] at h
 have:=h i (List.mem_range.2 (Array.getElem?_eq_some_iff.1 ho).1)
 rw [ho] at this
 simp only [Option.map_some,Option.getD_some,Array.all_eq_true_iff_forall_mem,decide_eq_true_eq] at this
 exact this e he
theorem at_new {W:World} {o:Obj} {k:Nat} (h:W.heap.size=k):(W.alloc o).heap[k]? = some o:=by subst h; exact blk_new W o
theorem alloc9 (w:World) (o0 o1 o2 o3 o4 o5 o6 o7 o8:Obj) (W:World) (hW:(((((((((w.alloc o0).alloc o1).alloc o2).alloc o3).alloc o4).alloc o5).alloc o6).alloc o7).alloc o8)=W) :
 Below w.heap.size w W∧W.heap.size=w.heap.size+9∧W.heap[w.heap.size]? = some o0∧W.heap[w.heap.size+1]? = some o1∧W.heap[w.heap.size+2]? = some o2∧W.heap[w.heap.size+3]? = some o3∧W.heap[w.heap.size+4]? = some o4∧W.heap[w.heap.size+5]? = some o5∧W.heap[w.heap.size+6]? = some o6∧W.heap[w.heap.size+7]? = some o7∧W.heap[w.heap.size+8]? = some o8:=by
 subst hW
 refine ⟨bl,by simp,(blk_alloc (blk_alloc (blk_alloc (blk_alloc (blk_alloc (blk_alloc (blk_alloc (blk_alloc (at_new (by simp)))))))))),(blk_alloc (blk_alloc (blk_alloc (blk_alloc (blk_alloc (blk_alloc (blk_alloc (at_new (by simp))))))))),(blk_alloc (blk_alloc (blk_alloc (blk_alloc (blk_alloc (blk_alloc (at_new (by simp)))))))),(blk_alloc (blk_alloc (blk_alloc (blk_alloc (blk_alloc (at_new (by simp))))))),(blk_alloc (blk_alloc (blk_alloc (blk_alloc (at_new (by simp)))))),(blk_alloc (blk_alloc (blk_alloc (at_new (by simp))))),(blk_alloc (blk_alloc (at_new (by simp)))),(blk_alloc (at_new (by simp))),(at_new (by simp))⟩
theorem dirU_cases {u:List UInt8} (h:dirU u≠[]):u=[79,82,71]∨u=[69,81,85]∨u=[68,69,70,66]∨u=[68,66]∨u=[68,69,70,87]∨u=[68,87]∨u=[68,69,70,83]∨u=[68,83]:=by
 unfold dirU at h
 (repeat' split at h)<;>first | exact absurd rfl h | (rename_i e; simp only [wORG,wEQU,wDEFB,wDEFW,wDEFS] at e; first | (rcases e with e | e<;>simp [e]) | simp [e])
theorem ba_list {k:ByteArray} {u:List UInt8} (h:k.data.toList=u):k=⟨u.toArray⟩:=by subst h; rfl
theorem dirMap_of {l:List (ByteArray × Value)} {W1:World} (h1:∀ k v,sget l k=some v→∃ i src,i<21∧dirC i=.ins k src∧dirV src v W1) (h2:∀ i k src,i<21→dirC i=.ins k src→∃ v,sget l k=some v∧dirV src v W1):DirMap l W1:=by
 refine ⟨fun k v hg=>?_,fun k hk=>?_⟩
 · obtain ⟨i,src,hi,hc,hd⟩:=h1 k v hg
   rcases dirC_ins hc with ⟨rfl,rfl,rfl⟩ | ⟨rfl,rfl,rfl⟩ | ⟨rfl,rfl,rfl⟩ | ⟨rfl,rfl,rfl⟩ | ⟨rfl,rfl,rfl⟩ | ⟨rfl,rfl,rfl⟩ | ⟨rfl,rfl,rfl⟩ | ⟨rfl,rfl,rfl⟩
   · have e:dirU [79,82,71]=wORG:=by decide
     exact ⟨by rw [e]; decide,by rw [e]; exact hd⟩
   · have e:dirU [69,81,85]=wEQU:=by decide
     exact ⟨by rw [e]; decide,by rw [e]; exact hd⟩
   · have e:dirU [68,69,70,66]=wDEFB:=by decide
     exact ⟨by rw [e]; decide,by rw [e]; exact hd⟩
   · have e:dirU [68,66]=wDEFB:=by decide
     exact ⟨by rw [e]; decide,by rw [e]; exact hd⟩
   · have e:dirU [68,69,70,87]=wDEFW:=by decide
     exact ⟨by rw [e]; decide,by rw [e]; exact hd⟩
   · have e:dirU [68,87]=wDEFW:=by decide
     exact ⟨by rw [e]; decide,by rw [e]; exact hd⟩
   · have e:dirU [68,69,70,83]=wDEFS:=by decide
     exact ⟨by rw [e]; decide,by rw [e]; exact hd⟩
   · have e:dirU [68,83]=wDEFS:=by decide
     exact ⟨by rw [e]; decide,by rw [e]; exact hd⟩
 · rcases dirU_cases hk with e | e | e | e | e | e | e | e
   · obtain rfl:=ba_list e
     obtain ⟨v,hv,_⟩:=h2 3 _ _ (by decide) rfl
     exact ⟨v,hv⟩
   · obtain rfl:=ba_list e
     obtain ⟨v,hv,_⟩:=h2 6 _ _ (by decide) rfl
     exact ⟨v,hv⟩
   · obtain rfl:=ba_list e
     obtain ⟨v,hv,_⟩:=h2 8 _ _ (by decide) rfl
     exact ⟨v,hv⟩
   · obtain rfl:=ba_list e
     obtain ⟨v,hv,_⟩:=h2 10 _ _ (by decide) rfl
     exact ⟨v,hv⟩
   · obtain rfl:=ba_list e
     obtain ⟨v,hv,_⟩:=h2 12 _ _ (by decide) rfl
     exact ⟨v,hv⟩
   · obtain rfl:=ba_list e
     obtain ⟨v,hv,_⟩:=h2 14 _ _ (by decide) rfl
     exact ⟨v,hv⟩
   · obtain rfl:=ba_list e
     obtain ⟨v,hv,_⟩:=h2 16 _ _ (by decide) rfl
     exact ⟨v,hv⟩
   · obtain rfl:=ba_list e
     obtain ⟨v,hv,_⟩:=h2 18 _ _ (by decide) rfl
     exact ⟨v,hv⟩
theorem t67_0 {p:Prop} (h:p:=by
 refine ⟨_,rfl,rfl,(fun j hj=>by cases hj),(fun j hj=>by cases hj),?_⟩
 intro R a W1 hA hb _ hK
 go_simp
 (with_reducible refine (HB.out _ _ _).mono ?_)
 rintro e w' ⟨rfl,rfl⟩
 refine hK _ _ (bl) ⟨_,_,rfl,?_,?_⟩
 · exact blk_alloc (blk_new W1 _)
 · have:=blk_new (W1.alloc (.cells #[.int .i64 1] 3)) (.cells #[.int .i64 1] 3)
   rwa [World.size_alloc] at this):p:=h
theorem t67_1 {p:Prop} (h:p:=by
 refine ⟨_,rfl,rfl,(fun j hj=>by cases hj),(fun j hj=>by cases hj),?_⟩
 intro R a W1 hA hb _ hK
 have ht:=hA.t1
 have c0:=blk_cell (KW hb k2) 0
 have c1:=blk_cell (KW hb k2) 1
 have c2:=blk_cell (KW hb k2) 2
 have q0:=KW hb k0
 have q1:=KW hb k1
 go_simp
 exact hK _ _ (Below.refl _ _) ⟨_,rfl,_,_,rfl,q0,q1⟩):p:=h
theorem t67_2 {p:Prop} (h:p:=by
 refine ⟨_,rfl,rfl,(fun j hj=>by cases hj),(fun j hj=>by cases hj),?_⟩
 intro R a W1 hA hb _ hK
 have ht:=hA.t2
 have c0:=blk_cell (KW hb k5) 0
 have c1:=blk_cell (KW hb k5) 1
 have c2:=blk_cell (KW hb k5) 2
 have q0:=KW hb k3
 have q1:=KW hb k4
 go_simp
 exact hK _ _ (Below.refl _ _) ⟨_,rfl,_,_,rfl,q0,q1⟩):p:=h
theorem t67_3 {p:Prop} (h:p:=by
 refine ⟨_,rfl,rfl,(fun j hj=>by cases hj),(fun j hj=>by cases hj),?_⟩
 intro R a W1 hA hb _ hK
 have ht:=hA.t3
 have c0:=blk_cell (KW hb k8) 0
 have c1:=blk_cell (KW hb k8) 1
 have c2:=blk_cell (KW hb k8) 2
 have q0:=KW hb k6
 have q1:=KW hb k7
 go_simp
 exact hK _ _ (Below.refl _ _) ⟨_,rfl,_,_,rfl,q0,q1⟩):p:=h
set_option maxRecDepth 100000 in
set_option maxHeartbeats 4000000 in
theorem directives_any (w:World):Calls Tryz.prog 74 #[] w fun e w'=>∃ mb l,e=.returned (.map (some mb))∧SMap w' mb l∧DirMap l w'∧Below w.heap.size w w':=by
 have HB:=Hh between_any
 go_enter Tryz.func74,Tryz.ntmps74
 go_wp2_with fail
 (with_reducible refine (HB.out _ _ _).mono ?_)
 rintro e w1 ⟨rfl,rfl⟩
 go_wp2_with fail
 (with_reducible refine (HB.out _ _ _).mono ?_)
 rintro e w1 ⟨rfl,rfl⟩
 go_wp2_with fail
 (with_reducible refine (HB.out _ _ _).mono ?_)
 rintro e w1 ⟨rfl,rfl⟩
 go_wp2_with fail
 generalize hW:(((((((((w.alloc _).alloc _).alloc _).alloc _).alloc _).alloc _).alloc _).alloc _).alloc _)=W
 obtain ⟨hbW,hsz,k0,k1,k2,k3,k4,k5,k6,k7,k8⟩:=alloc9 w (.cells #[.int .i64 1] 3) (.cells #[.int .i64 1024] 3) (.cells #[.string ⟨#[68,69,70,66]⟩,.bool true,.func (.func 228) #[] #[.pointer (some ⟨w.heap.size+0,0,none⟩),.pointer (some ⟨w.heap.size+1,0,none⟩)]] 136) (.cells #[.int .i64 1] 3) (.cells #[.int .i64 1024] 3) (.cells #[.string ⟨#[68,69,70,87]⟩,.bool false,.func (.func 228) #[] #[.pointer (some ⟨w.heap.size+3,0,none⟩),.pointer (some ⟨w.heap.size+4,0,none⟩)]] 136) (.cells #[.int .i64 1] 3) (.cells #[.int .i64 2] 3) (.cells #[.string ⟨#[68,69,70,83]⟩,.bool false,.func (.func 228) #[] #[.pointer (some ⟨w.heap.size+6,0,none⟩),.pointer (some ⟨w.heap.size+7,0,none⟩)]] 136) W hW
 clear hW
 refine wp_maplit (by kernel_rfl) Tryz.underlying138 Tryz.underlying9 dirC dirD 0 dirV (DirA (w.heap.size+2)) dirV_keep ⟨rfl,rfl,rfl,rfl,rfl⟩ (fun i v a hi hp hA=>hA.put (dirD i) v (dirC_puts i hi hp).1 (dirC_puts i hi hp).2.1 (dirC_puts i hi hp).2.2.1 (dirC_puts i hi hp).2.2.2) (fun i j hi hj=>dirC_inj i hi j hj) dirC_keys ?_ ?_ ?_ ?_ rfl (by decide) (edges_before (by kernel_rfl)) ?_
 · intro i ds hi hc
   have KW:∀ {k:Nat} {o:Obj} {W1:World},Below W.heap.size W W1→W.heap[k]? = some o→W1.heap[k]? = some o:=fun hb hk=>(hb.block _ (blk_lt hk)).trans hk
   rcases dirC_val hi hc with ⟨rfl,rfl⟩ | ⟨rfl,rfl⟩ | ⟨rfl,rfl⟩ | ⟨rfl,rfl⟩ | ⟨rfl,rfl⟩ | ⟨rfl,rfl⟩ | ⟨rfl,rfl⟩ | ⟨rfl,rfl⟩ | ⟨rfl,rfl⟩ | ⟨rfl,rfl⟩
   · exact t67_0
   · refine ⟨_,rfl,rfl,(fun j hj=>by obtain rfl:=List.mem_singleton.1 hj; exact ⟨[],rfl⟩),(fun j hj=>by obtain rfl:=List.mem_singleton.1 hj; exact ⟨⟨1,.data⟩,by simp,rfl,rfl⟩),?_⟩
     intro R a W1 hA hb hdp hK
     obtain ⟨p,q,hv,h1,h2⟩:=(show FV 1 (a.tmps.getD 11 undef) W1 from hdp 1 (List.mem_singleton.2 rfl))
     have hv2:a.tmps[11]?.getD undef=a.tmps.getD 11 undef:=by simp
     rw [hv] at hv2
     go_simp
     exact hK _ _ (Below.refl _ _) ⟨_,rfl,p,q,rfl,h1,h2⟩
   · exact t67_0
   · refine ⟨_,rfl,rfl,(fun j hj=>by obtain rfl:=List.mem_singleton.1 hj; exact ⟨[],rfl⟩),(fun j hj=>by obtain rfl:=List.mem_singleton.1 hj; exact ⟨⟨4,.data⟩,by simp,rfl,rfl⟩),?_⟩
     intro R a W1 hA hb hdp hK
     obtain ⟨p,q,hv,h1,h2⟩:=(show FV 1 (a.tmps.getD 13 undef) W1 from hdp 4 (List.mem_singleton.2 rfl))
     have hv2:a.tmps[13]?.getD undef=a.tmps.getD 13 undef:=by simp
     rw [hv] at hv2
     go_simp
     exact hK _ _ (Below.refl _ _) ⟨_,rfl,p,q,rfl,h1,h2⟩
   · exact t67_1
   · exact t67_1
   · exact t67_2
   · exact t67_2
   · exact t67_3
   · exact t67_3
 · intro i hi hc
   obtain rfl:=dirC_mk hc
   exact ⟨rfl,_,rfl,rfl,rfl,rfl⟩
 · intro i k s hi hc
   rcases dirC_ins hc with ⟨rfl,rfl,rfl⟩ | ⟨rfl,rfl,rfl⟩ | ⟨rfl,rfl,rfl⟩ | ⟨rfl,rfl,rfl⟩ | ⟨rfl,rfl,rfl⟩ | ⟨rfl,rfl,rfl⟩ | ⟨rfl,rfl,rfl⟩ | ⟨rfl,rfl,rfl⟩
   · exact ⟨⟨_,rfl⟩,_,rfl,rfl,rfl,rfl,⟨⟨0,.data⟩,by simp,rfl,rfl⟩,⟨⟨2,.data⟩,by simp,rfl,rfl⟩⟩
   · exact ⟨⟨_,rfl⟩,_,rfl,rfl,rfl,rfl,⟨⟨0,.data⟩,by simp,rfl,rfl⟩,⟨⟨5,.data⟩,by simp,rfl,rfl⟩⟩
   · exact ⟨⟨_,rfl⟩,_,rfl,rfl,rfl,rfl,⟨⟨0,.data⟩,by simp,rfl,rfl⟩,⟨⟨7,.data⟩,by simp,rfl,rfl⟩⟩
   · exact ⟨⟨_,rfl⟩,_,rfl,rfl,rfl,rfl,⟨⟨0,.data⟩,by simp,rfl,rfl⟩,⟨⟨9,.data⟩,by simp,rfl,rfl⟩⟩
   · exact ⟨⟨_,rfl⟩,_,rfl,rfl,rfl,rfl,⟨⟨0,.data⟩,by simp,rfl,rfl⟩,⟨⟨11,.data⟩,by simp,rfl,rfl⟩⟩
   · exact ⟨⟨_,rfl⟩,_,rfl,rfl,rfl,rfl,⟨⟨0,.data⟩,by simp,rfl,rfl⟩,⟨⟨13,.data⟩,by simp,rfl,rfl⟩⟩
   · exact ⟨⟨_,rfl⟩,_,rfl,rfl,rfl,rfl,⟨⟨0,.data⟩,by simp,rfl,rfl⟩,⟨⟨15,.data⟩,by simp,rfl,rfl⟩⟩
   · exact ⟨⟨_,rfl⟩,_,rfl,rfl,rfl,rfl,⟨⟨0,.data⟩,by simp,rfl,rfl⟩,⟨⟨17,.data⟩,by simp,rfl,rfl⟩⟩
 · intro i s hi hc
   rcases dirC_mv hc with ⟨rfl,rfl⟩ | ⟨rfl,rfl⟩
   · exact ⟨.inl rfl,_,rfl,rfl,⟨⟨0,.data⟩,by simp,rfl,rfl⟩,⟨⟨0,.data⟩,by simp,rfl,rfl⟩,fun R a w h=>h⟩
   · exact ⟨.inr ⟨_,rfl⟩,_,rfl,rfl,⟨⟨19,.data⟩,by simp,rfl,rfl⟩,⟨⟨0,.phase⟩,by simp,rfl,rfl⟩,fun R a w h=>h⟩
 · intro a W1 mb l hA hb hmb hsm hmv h1 h2
   have hm:=hmv 20 19 (by decide) rfl
   have hm:a.tmps[0]?.getD undef=.map (some mb):=by rw [←hm]; show _=a.tmps.getD 0 undef; simp
   have hD:DirMap l W1:=dirMap_of h1 h2
   obtain ⟨ts,df⟩:=a
   obtain rfl:df=[]:=hA.defers
   have HS:=Hh hsm; have HD:=Hh hD; have HBB:=Hh (hbW.trans (hb.mono hbW.size))
   clear hsm hD hA hb hmv h1 h2 hmb
   go_wp2_with fail
   go_ret
   exact ⟨mb,by rw [←hm]; simp,l,HS.out,HD.out,HBB.out⟩
end Go.Proofs.YtkldoojonnkfgaaGreatDoor
