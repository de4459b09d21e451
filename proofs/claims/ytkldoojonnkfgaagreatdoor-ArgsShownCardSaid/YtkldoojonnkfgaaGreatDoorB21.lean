/- Joined texts: TabsA, OwnMore, WRow, WordT, NamedT. -/
import Derived.Test.YtkldoojonnkfgaaGreatDoorB05
import Derived.Test.YtkldoojonnkfgaaGreatDoorB06
import Derived.Test.YtkldoojonnkfgaaGreatDoorB08
namespace Go.Proofs.YtkldoojonnkfgaaGreatDoor
open Go.RowKit Go.Sort
structure TabsA (w:World):Prop where
 t:Tabs w
 sp : Lib.TabIs Tryz.prog w "strings.asciiSpace" .u8 Lib.asciiSpaceTab
 ml:∃ m,w.cell? ⟨1,0,none⟩=some (.int .i64 m)
theorem TabsA.below {w w':World} (h:TabsA w) (hb:Below w.heap.size w w'):TabsA w':=by
 refine ⟨h.t.below hb,?_,?_⟩
 · have h1:=h.sp
   unfold Lib.TabIs World.var? at h1 ⊢
   have hg : Tryz.prog.globalNamed "strings.asciiSpace" = some 4 := by kernel_rfl
   rw [hg] at h1 ⊢
   simp only [Option.bind_some] at h1 ⊢
   have hlt:4<w.heap.size:=by
    rcases Nat.lt_or_ge 4 w.heap.size with h' | h'
    · exact h'
    · rw [Array.getElem?_eq_none h'] at h1; cases h1
   rw [hb.block _ hlt]
   exact h1
 · obtain ⟨m,hm⟩:=h.ml
   exact ⟨m,(hb.cell (p:=⟨1,0,none⟩) (block_lt_of_cell (a:=⟨1,0,none⟩) hm)).trans hm⟩
theorem fields_any (l:List UInt8) (w:World) (hT:TabsA w) (hl:l.length≤1000000) (ha:l.all (fun b=>decide (b.toNat<128))=true) :
 Calls Tryz.prog 248 #[.string ⟨l.toArray⟩] w fun e w'=>e=.returned (.slice (some ⟨w.heap.size,0,none⟩) (Lib.fields l).length (Lib.fields l).length)∧w'=w.alloc (.cells ((Lib.fields l).map fun x=>Value.string ⟨x.toArray⟩).toArray 9) :=
 Tryz.strings_Fields ⟨l.toArray⟩ w (by show l.toArray.size<_; rw [List.size_toArray]; omega) (fun j b hb=>by
  have:=List.all_eq_true.1 ha b (List.mem_of_getElem? hb)
  simpa using this) hT.sp
theorem owns_mono {w:World} {b b':Nat} {e:TypeId} {size:Nat} {v:Value} {n:Nat} {xs:List Value} (h:w.ownsRow b e size v n xs) (hb:b'≤b):w.ownsRow b' e size v n xs:=by
 obtain ⟨h1,h2⟩:=h
 refine ⟨h1,?_⟩
 rcases h2 with h2 | ⟨g,cap,cur,hv,hg,r⟩
 · exact Or.inl h2
 · exact Or.inr ⟨g,cap,cur,hv,by omega,r⟩
theorem own_ne {w:World} {b k:Nat} {e:TypeId} {size:Nat} {v:Value} {n:Nat} {xs:List Value} (h:w.ownsRow b e size v n xs) (hk:k<b):some k≠v.ownBlock:=fun q=>by
 rcases h.2 with ⟨h,_⟩ | ⟨g,cap,cur,h,hg,_⟩
 · rw [h] at q; cases q
 · rw [h] at q; have q3:k=g:=Option.some.inj q; omega
theorem owns_slice {w:World} {b:Nat} {e:TypeId} {size:Nat} {v:Value} {n:Nat} {xs:List Value} (h:w.ownsRow b e size v n xs):∃ a c,v=.slice a n c:=by
 obtain ⟨h1,h2⟩:=h
 rcases h2 with ⟨rfl,rfl⟩ | ⟨g,cap,cur,rfl,_⟩
 · exact ⟨none,0,rfl⟩
 · exact ⟨_,_,rfl⟩
def WRow (w:World) (b:Nat) (v:Value) (n:Nat) (xs:List Value):Prop :=
 ∃ a cap,v=.slice a n cap∧n≤cap∧(xs≠[]→∃ g o,a=some ⟨g,o,none⟩∧b≤g∧g<w.heap.size∧(∀ j,j<xs.length→w.cell? ⟨g,o+j,none⟩=xs[j]?)∧∀ j,j<xs.length→w.frozen? ⟨g,o+j,none⟩=false)
theorem WRow.row {w:World} {b:Nat} {v:Value} {n:Nat} {xs:List Value} (h:WRow w b v n xs):Row w v n xs:=by
 obtain ⟨a,cap,hv,hn,h⟩:=h
 exact ⟨a,cap,hv,hn,fun hx=>by obtain ⟨g,o,h1,_,h2,h3,_⟩:=h hx; exact ⟨g,o,h1,h2,h3⟩⟩
theorem WRow.mono {w:World} {b b':Nat} {v:Value} {n:Nat} {xs:List Value} (h:WRow w b v n xs) (hb:b'≤b):WRow w b' v n xs:=by
 obtain ⟨a,cap,hv,hn,h⟩:=h
 exact ⟨a,cap,hv,hn,fun hx=>by obtain ⟨g,o,h1,h0,h2⟩:=h hx; exact ⟨g,o,h1,by omega,h2⟩⟩
theorem WRow.nil (w:World) (b:Nat):WRow w b (.slice none 0 0) 0 []:=⟨none,0,rfl,Nat.le_refl _,fun h=>absurd rfl h⟩
theorem WRow.of_owns {w:World} {b:Nat} {e:TypeId} {size:Nat} {v:Value} {n:Nat} {xs:List Value} (h:w.ownsRow b e size v n xs):WRow w b v n xs:=by
 obtain ⟨h1,h2⟩:=h
 rcases h2 with ⟨rfl,rfl⟩ | ⟨g,cap,cur,rfl,hg,hh,hn,hcap,hcur,rfl⟩
 · rw [Nat.zero_mul] at h1
   obtain rfl:=List.eq_nil_of_length_eq_zero h1
   exact WRow.nil _ _
 · refine ⟨_,cap,rfl,hn,fun hx=>⟨g,0,rfl,hg,lt_of_block hh,fun j hj=>?_,fun j hj=>?_⟩⟩
   · simp only [World.cell?,hh,Nat.zero_add]
     rw [h1] at hj
     rw [List.getElem?_take_of_lt hj]
     simp
   · simp [World.frozen?,hh]
theorem WRow.below {w w':World} {b:Nat} {v:Value} {n:Nat} {xs:List Value} (h:WRow w b v n xs) (hb:Below w.heap.size w w'):WRow w' b v n xs:=by
 obtain ⟨a,cap,hv,hn,h⟩:=h
 refine ⟨a,cap,hv,hn,fun hx=>?_⟩
 obtain ⟨g,o,ha,h0,hg,hc,hf⟩:=h hx
 exact ⟨g,o,ha,h0,Nat.lt_of_lt_of_le hg hb.size,fun j hj=>(hb.cell (p:=⟨g,o+j,none⟩) hg).trans (hc j hj),fun j hj=>(hb.frozen (p:=⟨g,o+j,none⟩) hg).trans (hf j hj)⟩
theorem Kb.frozen {b:Nat} {u w:World} (h:Kb b u w) {p:Addr} (hp:p.block<u.heap.size) (hb:p.block≠b):w.frozen? p=u.frozen? p:=by
 have:=h.block p.block hp hb
 simp only [World.frozen?,this]
theorem WRow.kb {w w':World} {b k:Nat} {v:Value} {n:Nat} {xs:List Value} (h:WRow w b v n xs) (hk:Kb k w w') (hlt:k<b):WRow w' b v n xs:=by
 obtain ⟨a,cap,hv,hn,h⟩:=h
 refine ⟨a,cap,hv,hn,fun hx=>?_⟩
 obtain ⟨g,o,ha,h0,hg,hc,hf⟩:=h hx
 exact ⟨g,o,ha,h0,Nat.lt_of_lt_of_le hg hk.size,fun j hj=>(hk.cell (p:=⟨g,o+j,none⟩) hg (by show g≠k; omega)).trans (hc j hj),fun j hj=>(hk.frozen (p:=⟨g,o+j,none⟩) hg (by show g≠k; omega)).trans (hf j hj)⟩
theorem Row.kb {w w':World} {b k:Nat} {v:Value} {n:Nat} {xs:List Value} (h:WRow w b v n xs) (hk:Kb k w w') (hlt:k<b):Row w' v n xs:=(h.kb hk hlt).row
theorem WRow.set {w:World} {b g o i cap n:Nat} {xs:List Value} {u:Value} (h:WRow w b (.slice (some ⟨g,o,none⟩) n cap) n xs) (hi:i<xs.length) :
 WRow (w.setCell ⟨g,o+i,none⟩ u) b (.slice (some ⟨g,o,none⟩) n cap) n (xs.set i u):=by
 obtain ⟨a,c,hv,hn,h⟩:=h
 cases hv
 refine ⟨_,_,rfl,hn,fun _=>?_⟩
 obtain ⟨g',o',ha,h0,hg,hc,hf⟩:=h (by intro e; rw [e] at hi; simp at hi)
 cases ha
 refine ⟨g,o,rfl,h0,by show _<(w.heap.modify _ _).size; rw [Array.size_modify]; exact hg,fun j hj=>?_,fun j hj=>?_⟩
 · rw [List.length_set] at hj
   by_cases e:j=i
   · subst e
     rw [World.cell?_setCell_same _ _ _ ((hc j hj).trans (List.getElem?_eq_getElem hj)),List.getElem?_set_self hj]
   · rw [World.cell?_setCell_other _ _ _ _ (by first | (simp; done) | (simp; omega)),hc j hj,List.getElem?_set_ne (fun q=>e q.symm)]
 · rw [List.length_set] at hj
   rw [World.frozen?_setCell]; exact hf j hj
theorem WRow.op {w:World} {b:Nat} {v:Value} {l:List Op3} (h:WRow w b v l.length (opc l)):∃ a cap,v=.slice a l.length cap∧l.length≤cap∧(l≠[]→∃ g o,a=some ⟨g,o,none⟩∧b≤g∧g<w.heap.size∧∀ i x,l[i]? = some x →
 w.cell? ⟨g,o+i * 3,none⟩=some (.int .i64 x.1)∧w.cell? ⟨g,o+i * 3+1,none⟩=some (.int .i64 x.2.1)∧w.cell? ⟨g,o+i * 3+2,none⟩=some (.int .i64 x.2.2)∧w.frozen? ⟨g,o+i * 3,none⟩=false∧w.frozen? ⟨g,o+i * 3+1,none⟩=false∧w.frozen? ⟨g,o+i * 3+2,none⟩=false):=by
 obtain ⟨a,cap,hv,hn,h⟩:=h
 refine ⟨a,cap,hv,hn,fun hl=>?_⟩
 obtain ⟨g,o,ha,h0,hg,hc,hf⟩:=h (by intro e; apply hl; have:=opc_len l; rw [e] at this; exact List.eq_nil_of_length_eq_zero (by simp at this; omega))
 refine ⟨g,o,ha,h0,hg,fun i x hx=>?_⟩
 have hi:i<l.length:=(List.getElem?_eq_some_iff.1 hx).1
 have hlen:=opc_len l
 obtain ⟨e0,e1,e2⟩:=opc_get l i x hx
 have f1:=hf (i * 3+1) (by omega)
 have f2:=hf (i * 3+2) (by omega)
 rw [←Nat.add_assoc] at f1 f2
 exact ⟨(hc (i * 3) (by omega)).trans e0,by rw [Nat.add_assoc]; exact (hc (i * 3+1) (by omega)).trans e1,by rw [Nat.add_assoc]; exact (hc (i * 3+2) (by omega)).trans e2,hf (i * 3) (by omega),f1,f2⟩
theorem opc_set:∀ (l:List Op3) (i:Nat) (x:Op3) (m:Int),l[i]? = some x→(opc l).set (i * 3+2) (.int .i64 m)=opc (l.set i (x.1,x.2.1,m))
 | [],i,x,m,h=>by simp at h
 | a::l,0,x,m,h=>by
   simp at h; subst h
   rfl
 | a::l,i+1,x,m,h=>by
   have ih:=opc_set l i x m (by simpa using h)
   show ([Value.int .i64 a.1,.int .i64 a.2.1,.int .i64 a.2.2]++opc l).set ((i+1) * 3+2) (.int .i64 m)=_
   rw [show (i+1) * 3+2=(i * 3+2)+3 by omega]
   show Value.int .i64 a.1::.int .i64 a.2.1::.int .i64 a.2.2::(opc l).set (i * 3+2) (.int .i64 m)=_
   rw [ih]
   rfl
theorem WRow.setN {w:World} {b g o cap i:Nat} {l:List Op3} {x:Op3} {m:Int} (h:WRow w b (.slice (some ⟨g,o,none⟩) l.length cap) l.length (opc l)) (hx:l[i]? = some x) :
 WRow (w.setCell ⟨g,o+i * 3+2,none⟩ (.int .i64 m)) b (.slice (some ⟨g,o,none⟩) l.length cap) l.length (opc (l.set i (x.1,x.2.1,m))):=by
 have hi:i<l.length:=(List.getElem?_eq_some_iff.1 hx).1
 rw [←opc_set l i x m hx,Nat.add_assoc]
 exact h.set (by rw [opc_len]; omega)
theorem opc_setAll:∀ (l:List Op3) (i:Nat) (x:Op3),i<l.length→(((opc l).set (i * 3) (.int .i64 x.1)).set (i * 3+1) (.int .i64 x.2.1)).set (i * 3+2) (.int .i64 x.2.2)=opc (l.set i x)
 | [],i,x,h=>by simp at h
 | a::l,0,x,_=>rfl
 | a::l,i+1,x,h=>by
   have ih:=opc_setAll l i x (by simpa using h)
   rw [show (i+1) * 3=i * 3+3 by omega]
   show Value.int .i64 a.1::.int .i64 a.2.1::.int .i64 a.2.2::(((opc l).set (i * 3) (.int .i64 x.1)).set (i * 3+1) (.int .i64 x.2.1)).set (i * 3+2) (.int .i64 x.2.2)=_
   rw [ih]
   rfl
theorem WRow.setO {w:World} {b g o cap i:Nat} {l:List Op3} {x:Op3} (h:WRow w b (.slice (some ⟨g,o,none⟩) l.length cap) l.length (opc l)) (hi:i<l.length) :
 WRow (((w.setCell ⟨g,o+i * 3,none⟩ (.int .i64 x.1)).setCell ⟨g,o+i * 3+1,none⟩ (.int .i64 x.2.1)).setCell ⟨g,o+i * 3+2,none⟩ (.int .i64 x.2.2)) b (.slice (some ⟨g,o,none⟩) l.length cap) l.length (opc (l.set i x)):=by
 rw [←opc_setAll l i x hi,Nat.add_assoc,Nat.add_assoc]
 have hlen:=opc_len l
 exact ((h.set (i:=i * 3) (by omega)).set (i:=i * 3+1) (by rw [List.length_set]; omega)).set (i:=i * 3+2) (by rw [List.length_set,List.length_set]; omega)
@[go_sem] theorem setCell_size (w:World) (a:Addr) (v:Value):(w.setCell a v).heap.size=w.heap.size:=by show (w.heap.modify _ _).size=_; rw [Array.size_modify]
theorem box_kept {w w2:World} {o:Obj} (hb:Below (w.alloc o).heap.size (w.alloc o) w2):w2.heap[w.heap.size]? = some o:=(hb.block _ (by simp)).trans (by show (w.heap.push o)[w.heap.size]? = _; simp)
theorem cells3 {w:World} {b:Nat} {x y z:Value} {T:TypeId} (h:w.heap[b]? = some (.cells #[x,y,z] T (0,0))) :
 w.cell? ⟨b,0,none⟩=some x∧w.cell? ⟨b,1,none⟩=some y∧w.cell? ⟨b,2,none⟩=some z∧w.frozen? ⟨b,0,none⟩=false∧w.frozen? ⟨b,1,none⟩=false∧w.frozen? ⟨b,2,none⟩=false:=by
 refine ⟨?_,?_,?_,?_,?_,?_⟩<;>simp [World.cell?,World.frozen?,h]
theorem cells2 {w:World} {b:Nat} {x y:Value} {T:TypeId} (h:w.heap[b]? = some (.cells #[x,y] T (0,0))) :
 w.cell? ⟨b,0,none⟩=some x∧w.cell? ⟨b,1,none⟩=some y∧w.frozen? ⟨b,0,none⟩=false∧w.frozen? ⟨b,1,none⟩=false:=by
 refine ⟨?_,?_,?_,?_⟩<;>simp [World.cell?,World.frozen?,h]
theorem cells6 {w:World} {b:Nat} {x0 x1 x2 x3 x4 x5:Value} {T:TypeId} (h:w.heap[b]? = some (.cells #[x0,x1,x2,x3,x4,x5] T (0,0))) :
 (w.cell? ⟨b,0,none⟩=some x0∧w.cell? ⟨b,1,none⟩=some x1∧w.cell? ⟨b,2,none⟩=some x2∧w.cell? ⟨b,3,none⟩=some x3∧w.cell? ⟨b,4,none⟩=some x4∧w.cell? ⟨b,5,none⟩=some x5) ∧
 w.frozen? ⟨b,0,none⟩=false∧w.frozen? ⟨b,1,none⟩=false∧w.frozen? ⟨b,2,none⟩=false∧w.frozen? ⟨b,3,none⟩=false∧w.frozen? ⟨b,4,none⟩=false∧w.frozen? ⟨b,5,none⟩=false:=by
 refine ⟨⟨?_,?_,?_,?_,?_,?_⟩,?_,?_,?_,?_,?_,?_⟩<;>simp [World.cell?,World.frozen?,h]
theorem below_of_alloc {w w2:World} {o:Obj} (hb:Below (w.alloc o).heap.size (w.alloc o) w2):Below w.heap.size w w2:=((Below.refl _ _).alloc (Nat.le_refl _) o).trans (hb.mono (by simp))
abbrev opW (o:Op3):Value:=.agg #[.int .i64 o.1,.int .i64 o.2.1,.int .i64 o.2.2]
def wreg (o:Op3):Int:=if o.1=3 then o.2.1 else 8
def wordV (s:List UInt8):Op3 :=
 if Lib.hasPrefix s [40]=false then (namedO ⟨s.toArray⟩).headD (0,0,0)
 else (4,wreg ((namedO ⟨(Lib.trimSuffix (Lib.trimPrefix s [40]) [41]).toArray⟩).headD (0,0,0)),0)
def wordC (s:List UInt8):Bool:=decide (s.length≤100) && if Lib.hasPrefix s [40]=false then decide (namedO ⟨s.toArray⟩≠[]) else decide (namedO ⟨(Lib.trimSuffix (Lib.trimPrefix s [40]) [41]).toArray⟩≠[])
set_option maxHeartbeats 1000000 in
theorem word_any (s:List UInt8) (w:World) (h:wordC s=true):Calls Tryz.prog 357 #[.string ⟨s.toArray⟩] w fun e w'=>e=.returned (opW (wordV s))∧Below w.heap.size w w':=by
 unfold wordC at h
 rw [Bool.and_eq_true,decide_eq_true_eq] at h
 obtain ⟨hl,h⟩:=h
 have hcp:=fun w=>Tryz.strings_CutPrefix ⟨s.toArray⟩ ⟨#[40]⟩ w
 simp only at hcp
 rcases hp:Lib.hasPrefix s [40] with _ | _
 · rw [if_pos hp] at h
   have hv:wordV s=(namedO ⟨s.toArray⟩).headD (0,0,0):=by unfold wordV; rw [if_pos hp]
   rw [hv]
   obtain ⟨⟨x0,x1,x2⟩,rest,hx⟩:∃ x rest,namedO ⟨s.toArray⟩=x::rest:=by
    cases hn:namedO ⟨s.toArray⟩ with
    | nil=>rw [hn] at h; simp at h
    | cons x r=>exact ⟨x,r,rfl⟩
   have hnm:=namedO_any ⟨s.toArray⟩
   rw [hx] at hnm
   rw [hx]
   rw [hp] at hcp
   have HCP:=Hh hcp; clear hcp
   have HN:=Hh hnm; clear hnm
   clear hp hv h hx
   go_enter Tryz.func357,Tryz.ntmps357
   go_wp2_with fail
   refine (HCP.out _).mono ?_
   rintro e w1 ⟨rfl,rfl⟩
   go_wp2_with fail
   refine (HN.out _ (by show s.toArray.size≤_; rw [List.size_toArray]; unfold maxLen; omega)).mono ?_
   rintro e w2 ⟨v,rfl,hr,hb⟩
   obtain ⟨a,c,rfl,hc,hr⟩:=hr.op
   obtain ⟨g,o,rfl,hg,hr⟩:=hr (by simp)
   obtain ⟨c0,c1,c2⟩:=hr 0 _ rfl
   simp only [Nat.zero_mul,Nat.add_zero] at c0 c1 c2
   obtain ⟨k0,k1,k2,f0,f1,f2⟩:=cells3 (box_kept hb)
   have hbw:=below_of_alloc hb
   clear hb
   have HR:=Hh hr; clear hr
   have HBW:=Hh hbw; clear hbw
   have hsz:0<((x0,x1,x2)::rest).length:=by simp
   generalize ((x0,x1,x2)::rest).length=N at *
   go_wp2_with fail
   refine bodyPost_ret (v:=opW (x0,x1,x2)) (by simp [results,Tryz.results357,go_sem,k0,k1,k2]) rfl ⟨rfl,((HBW.out.setCell (p:=⟨w.heap.size,0,none⟩) (Nat.le_refl _) _).setCell (p:=⟨w.heap.size,1,none⟩) (Nat.le_refl _) _).setCell (p:=⟨w.heap.size,2,none⟩) (Nat.le_refl _) _⟩
 · rw [if_neg (by rw [hp]; decide)] at h
   have hv:wordV s=(4,wreg ((namedO ⟨(Lib.trimSuffix (Lib.trimPrefix s [40]) [41]).toArray⟩).headD (0,0,0)),0):=by unfold wordV; rw [if_neg (by rw [hp]; decide)]
   rw [hv]
   have hts:=fun w=>Tryz.strings_TrimSuffix ⟨(Lib.trimPrefix s [40]).toArray⟩ ⟨#[41]⟩ w
   simp only at hts
   have htl:(Lib.trimPrefix s [40]).length≤100:=by unfold Lib.trimPrefix; split<;>(try rw [List.length_drop])<;>omega
   have htl2:(Lib.trimSuffix (Lib.trimPrefix s [40]) [41]).length≤100:=by unfold Lib.trimSuffix; split<;>(try rw [List.length_take])<;>omega
   generalize Lib.trimSuffix (Lib.trimPrefix s [40]) [41]=q at *
   generalize Lib.trimPrefix s [40]=r at *
   obtain ⟨⟨x0,x1,x2⟩,rest,hx⟩:∃ x rest,namedO ⟨q.toArray⟩=x::rest:=by
    cases hn:namedO ⟨q.toArray⟩ with
    | nil=>rw [hn] at h; simp at h
    | cons x r=>exact ⟨x,r,rfl⟩
   have hnm:=namedO_any ⟨q.toArray⟩
   rw [hx] at hnm
   rw [hx]
   rw [hp] at hcp
   have HCP:=Hh hcp; clear hcp
   have HTS:=Hh hts; clear hts
   have HN:=Hh hnm; clear hnm
   clear hp hv h hx
   simp only [List.headD_cons]
   by_cases h3:x0=3
   · subst h3
     rw [show wreg (3,x1,x2)=x1 from rfl]
     go_enter Tryz.func357,Tryz.ntmps357
     go_wp2_with fail
     refine (HCP.out _).mono ?_
     rintro e w1 ⟨rfl,rfl⟩
     go_wp2_with fail
     refine (HTS.out _ (by show r.toArray.size≤_; rw [List.size_toArray]; omega)).mono ?_
     rintro e w1 ⟨rfl,rfl⟩
     go_wp2_with fail
     refine (HN.out _ (by show q.toArray.size≤_; rw [List.size_toArray]; unfold maxLen; omega)).mono ?_
     rintro e w2 ⟨v,rfl,hr,hb⟩
     obtain ⟨a,c,rfl,hc,hr⟩:=hr.op
     obtain ⟨g,o,rfl,hg,hr⟩:=hr (by simp)
     obtain ⟨c0,c1,c2⟩:=hr 0 _ rfl
     simp only [Nat.zero_mul,Nat.add_zero] at c0 c1 c2
     obtain ⟨k0,k1,k2,f0,f1,f2⟩:=cells3 (box_kept hb)
     have hlt:w.heap.size<w2.heap.size:=by have:=hb.size; rw [World.size_alloc] at this; omega
     have hbw:=below_of_alloc hb
     clear hb
     have HR:=Hh hr; clear hr
     have HBW:=Hh hbw; clear hbw
     have hsz:0<((3,x1,x2)::rest:List Op3).length:=by simp
     generalize ((3,x1,x2)::rest:List Op3).length=N at *
     go_wp2_with fail
     refine bodyPost_ret (v:=opW (4,x1,0)) (by simp [results,Tryz.results357,go_sem,k0,k1,k2,hlt]) rfl ⟨rfl,?_⟩
     exact (((HBW.out.setCell (p:=⟨w.heap.size,0,none⟩) (Nat.le_refl _) _).setCell (p:=⟨w.heap.size,1,none⟩) (Nat.le_refl _) _).setCell (p:=⟨w.heap.size,2,none⟩) (Nat.le_refl _) _).alloc (by simp [World.setCell]; omega) _
   · rw [show wreg (x0,x1,x2)=8 from if_neg h3]
     have hb3:(x0 == 3)=false:=by simpa using h3
     clear h3
     go_enter Tryz.func357,Tryz.ntmps357
     go_wp2_with fail
     refine (HCP.out _).mono ?_
     rintro e w1 ⟨rfl,rfl⟩
     go_wp2_with fail
     refine (HTS.out _ (by show r.toArray.size≤_; rw [List.size_toArray]; omega)).mono ?_
     rintro e w1 ⟨rfl,rfl⟩
     go_wp2_with fail
     refine (HN.out _ (by show q.toArray.size≤_; rw [List.size_toArray]; unfold maxLen; omega)).mono ?_
     rintro e w2 ⟨v,rfl,hr,hb⟩
     obtain ⟨a,c,rfl,hc,hr⟩:=hr.op
     obtain ⟨g,o,rfl,hg,hr⟩:=hr (by simp)
     obtain ⟨c0,c1,c2⟩:=hr 0 _ rfl
     simp only [Nat.zero_mul,Nat.add_zero] at c0 c1 c2
     obtain ⟨k0,k1,k2,f0,f1,f2⟩:=cells3 (box_kept hb)
     have hlt:w.heap.size<w2.heap.size:=by have:=hb.size; rw [World.size_alloc] at this; omega
     have hbw:=below_of_alloc hb
     clear hb
     have HR:=Hh hr; clear hr
     have HBW:=Hh hbw; clear hbw
     have hsz:0<((x0,x1,x2)::rest:List Op3).length:=by simp
     generalize ((x0,x1,x2)::rest:List Op3).length=N at *
     go_wp2_with fail
     refine bodyPost_ret (v:=opW (4,8,0)) (by simp [results,Tryz.results357,go_sem,k0,k1,k2,hlt]) rfl ⟨rfl,?_⟩
     exact (((HBW.out.setCell (p:=⟨w.heap.size,0,none⟩) (Nat.le_refl _) _).setCell (p:=⟨w.heap.size,1,none⟩) (Nat.le_refl _) _).setCell (p:=⟨w.heap.size,2,none⟩) (Nat.le_refl _) _).alloc (by simp [World.setCell]; omega) _
set_option maxHeartbeats 1000000 in
theorem namedT_any (l:List UInt8) (n:Nat) (x:List UInt8) (w:World) (hT:TabsA w) (hl:l.length≤1000) (ha:l.all (fun b=>decide (b.toNat<128))=true) (hx:(Lib.fields l)[n]? = some x) (hc:wordC x=true) :
 Calls Tryz.prog 383 #[.string ⟨l.toArray⟩,.int .i64 n] w fun e w'=>e=.returned (opW (wordV x))∧Below w.heap.size w w':=by
 have hlt:n<(Lib.fields l).length:=(List.getElem?_eq_some_iff.1 hx).1
 have hwa:=fun w=>word_any x w hc
 generalize wordV x=r at *
 obtain ⟨r0,r1,r2⟩:=r
 have hT2:TabsA (w.alloc (.cells #[.int .i64 0,.int .i64 0,.int .i64 0] 172)):=hT.below ((Below.refl _ _).alloc (Nat.le_refl _) _)
 have hfa:=fields_any l _ hT2 (by omega) ha
 have hcell:∀ w:World,(w.alloc (.cells ((Lib.fields l).map fun x=>Value.string ⟨x.toArray⟩).toArray 9)).cell? ⟨w.heap.size,n,none⟩=some (.string ⟨x.toArray⟩):=fun w=>by
  rw [World.cell?_alloc_at _ _ _ _ rfl]
  simp [hx]
 have hc2:=hcell (w.alloc (.cells #[.int .i64 0,.int .i64 0,.int .i64 0] 172))
 simp only [World.size_alloc] at hc2
 generalize (Lib.fields l).length=N at *
 generalize Obj.cells ((Lib.fields l).map fun x=>Value.string ⟨x.toArray⟩).toArray 9=O at *
 have HFA:=Hh hfa; clear hfa hcell
 have HW:=Hh hwa; clear hwa
 have hi:(n:Int)<N:=by omega
 clear hx hT hT2 ha
 go_enter Tryz.func383,Tryz.ntmps383
 go_wp2_with fail
 refine HFA.out.mono ?_
 rintro e w1 ⟨rfl,rfl⟩
 go_wp2_with fail
 refine (HW.out _).mono ?_
 rintro e w2 ⟨rfl,hb⟩
 have hlt2:=hb.size
 simp only [World.size_alloc] at hlt2
 have hkb:w2.heap[w.heap.size]? = some (.cells #[.int .i64 0,.int .i64 0,.int .i64 0] 172):=(hb.block _ (by simp; omega)).trans (by rw [Below.heap_alloc _ _ _ (by simp)]; show (w.heap.push _)[w.heap.size]? = _; simp)
 obtain ⟨k0,k1,k2,f0,f1,f2⟩:=cells3 hkb
 have HBW:=Hh ((show Below w.heap.size w _ from bl).trans (hb.mono (by simp; omega))); clear hb hkb
 go_wp2_with fail
 refine bodyPost_ret (v:=opW (r0,r1,r2)) (by simp [results,Tryz.results383,go_sem,k0,k1,k2]) rfl ⟨rfl,?_⟩
 exact ((HBW.out.setCell (p:=⟨w.heap.size,0,none⟩) (Nat.le_refl _) _).setCell (p:=⟨w.heap.size,1,none⟩) (Nat.le_refl _) _).setCell (p:=⟨w.heap.size,2,none⟩) (Nat.le_refl _) _
end Go.Proofs.YtkldoojonnkfgaaGreatDoor
