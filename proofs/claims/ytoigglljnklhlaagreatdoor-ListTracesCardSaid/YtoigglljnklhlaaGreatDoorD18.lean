/- Joined. -/
import Derived.Test.YtoigglljnklhlaaGreatDoorD17
set_option maxHeartbeats 8000000
set_option maxRecDepth 100000
namespace Go.Proofs.YtoigglljnklhlaaGreatDoor
section
open Go.RowKit Go.Sort
open Go.ChangeMaps
theorem aQe (s t:ByteArray):(s == t)=decide (s=t):=by
 have e:(s == t)=(s.data == t.data):=by cases s;cases t;rfl
 rw[e,Yl,Yq,decide_eq_true_iff];exact⟨fun h=>ByteArray.ext h,fun h=>by rw[h]⟩
theorem oT (s:ByteArray):(s == s)=true:=by rw[aQe];simp
theorem aPi {s t:ByteArray} (h:s≠t):(s == t)=false:=by rw[aQe];simpa using h
def gW:List (ByteArray × Value)→ByteArray→Option Value
 | [],_=>none
 | x::l,s=>if s == x.1 then some x.2 else gW l s
def mV:List (ByteArray × Value)→ByteArray→Value→List (ByteArray × Value)
 | [],s,v=>[(s,v)]
 | x::l,s,v=>if s == x.1 then (s,v)::l else x::mV l s v
theorem uJ:∀ (l:List (ByteArray × Value)) (s t:ByteArray) (v:Value),gW (mV l s v) t=if t == s then some v else gW l t
 | [],s,t,v=>by simp[mV,gW]
 | x::l,s,t,v=>by
   by_cases h:s=x.1
   · subst h;simp only[mV,oT,if_true,gW];split<;>rfl
   · have hb:(s == x.1)=false:=aPi h;simp only[mV,hb,gW];simp only[Bool.false_eq_true,if_false,gW];rw[uJ l s t v];by_cases ht:t=s
     · subst ht;simp[hb,oT]
     · simp[aPi ht]
theorem uK:∀ {l:List (ByteArray × Value)} {s:ByteArray},gW l s=none→∀ x∈l,x.1≠s
 | [],_,_,x,hx=>by cases hx
 | y::l,s,h,x,hx=>by
   simp only[gW] at h;split at h
   · cases h
   · rename_i hne;rcases Xg.1 hx with rfl|hx
     · intro e;exact hne (by rw[e,oT])
     · exact uK h x hx
abbrev ekv (e:MapEntry):Value × Value:=(e.key,e.val)
def SMap (w:World) (b:Nat) (l:List (ByteArray × Value)):Prop:=∃ es c,w.heap[b]? = some (.map es c)∧es.toList.map ekv=l.map (fun x=>(Value.string x.1,x.2))∧MapKept.Stamped es c
theorem SMap.new {w:World} {b:Nat} (h:w.heap[b]? = some (.map #[] 0)):SMap w b []:=⟨#[],0,h,rfl,MapKept.stamped_empty 0⟩
theorem SMap.lt {w:World} {b:Nat} {l:List (ByteArray × Value)} (h:SMap w b l):b<w.heap.size:=by
 obtain⟨es,c,h,_,_⟩:=h;exact (Ql.1 h).1
theorem SMap.below {w w':World} {b:Nat} {l:List (ByteArray × Value)} (h:SMap w b l) (hb:Below w w w'):SMap w' b l:=by
 have hlt:=h.lt;obtain⟨es,c,h1,h2,h3⟩:=h;exact⟨es,c,by rw[hb.block b hlt];exact h1,h2,h3⟩
theorem SMap.block {w w':World} {b:Nat} {l:List (ByteArray × Value)} (h:SMap w b l) (hb:w'.heap[b]? = w.heap[b]?):SMap w' b l:=by
 obtain⟨es,c,h1,h2,h3⟩:=h;exact⟨es,c,by rw[hb];exact h1,h2,h3⟩
theorem SMap.nodup {w:World} {b:Nat} {l:List (ByteArray × Value)} (h:SMap w b l):(l.map Prod.fst).Nodup:=by
 obtain⟨es,c,_,h2,h3⟩:=h;have hk:es.toList.map (·.key)=l.map fun x=>Value.string x.1:=by
  have:=congrArg (List.map Prod.fst) h2
  simpa[Function.comp_def] using this
 have hn:=h3.2.2;rw[hk] at hn;rw[show (l.map fun x=>Value.string x.1)=(l.map Prod.fst).map Value.string by simp[Function.comp_def]] at hn
 exact List.Pairwise.of_map Value.string (fun a b h e=>h (by rw[e])) hn
theorem SMap.gw {w:World} {b:Nat} {l:List (ByteArray × Value)} (h:SMap w b l) (p:Regrown):SMap (gw w p) b l:=h.below (cF w p)
theorem SMap.alloc {w:World} {b:Nat} {l:List (ByteArray × Value)} (h:SMap w b l) (o:Obj):SMap (w.alloc o) b l:=h.below (br.alloc lr o)
theorem SMap.setCell {w:World} {b:Nat} {l:List (ByteArray × Value)} (h:SMap w b l) (g j:Nat) (v:Value) (hne:b≠g):SMap (w.setCell ⟨g,j,none⟩ v) b l:=h.block (Below.heap_setCell w ⟨g,j,none⟩ v b hne)
theorem Lo (s:ByteArray):∀ (es:List MapEntry) (l:List (ByteArray × Value)) (i:Nat),es.map ekv=l.map (fun x=>(Value.string x.1,x.2)) →
 (gW l s=none→Instr.findNow .string (.string s) es i=some none∧∀ v c,(es++[MapEntry.mk (.string s) v c]).map ekv=(mV l s v).map (fun x=>(Value.string x.1,x.2))) ∧
 (∀ v,gW l s=some v→∃ j,Instr.findNow .string (.string s) es i=some (some (i+j,v))∧(es[j]?).map (·.key)=some (.string s)∧∀ v',(es.modify j fun e:MapEntry=>{ e with key:=.string s,val:=v' }).map ekv=(mV l s v').map (fun x=>(Value.string x.1,x.2)))
 | [],[],i,_=>⟨fun _=>⟨rfl,fun v c=>rfl⟩,fun v h=>by cases h⟩
 | [],x::l,i,h=>by simp at h
 | e::es,[],i,h=>by simp at h
 | e::es,x::l,i,h=>by
   simp only[Xt,List.cons.injEq,Prod.mk.injEq] at h;obtain⟨⟨h1,h2⟩,h3⟩:=h;obtain⟨ek,ev,eb⟩:=e;simp only at h1 h2;subst h1 h2;have ih:=Lo s es l (i+1) h3;by_cases hx:s=x.1
   · have hb:(s == x.1)=true:=by rw[hx];exact oT _
     refine⟨fun h=>?_,fun v h=>⟨0,?_,?_,fun v'=>?_⟩⟩
     · simp[gW,hb] at h
     · simp only[gW,hb,if_true,Option.some.injEq] at h;subst h;simp[Instr.findNow,Instr.sameNow,hb]
     · subst hx;rfl
     · simp only[mV,hb,if_true,Xt,←h3];simp
   · have hb:(s == x.1)=false:=aPi hx;refine⟨fun h=>?_,fun v h=>?_⟩
     · simp only[gW,hb,Bool.false_eq_true,if_false] at h;obtain⟨e1,e2⟩:=ih.1 h;refine⟨?_,fun v c=>?_⟩
       · simp only[Instr.findNow,Instr.sameNow,hb];exact e1
       · simp only[mV,hb,Bool.false_eq_true,if_false,Xt,Xy,e2 v c]
     · simp only[gW,hb,Bool.false_eq_true,if_false] at h;obtain⟨j,e1,e2,e3⟩:=ih.2 v h;refine⟨j+1,?_,?_,fun v'=>?_⟩
       · simp only[Instr.findNow,Instr.sameNow,hb];rw[e1];congr 3;omega
       · simpa using e2
       · simp only[mV,hb,Bool.false_eq_true,if_false,Xt];rw[←e3 v'];simp
section
variable {P:Program} {T K E:TypeId}
theorem Mb (ht:P.underlying T=some (.map K E)) (hk:P.underlying K=some .string) {z:Value} (hz:∀ w,(zeroValue E).run P w=.ok z w) {w:World} {b:Nat} {l:List (ByteArray × Value)} (h:SMap w b l) (s:ByteArray) (ok:Bool) :
 (Instr.lookup T (.map (some b)) (.string s) ok).run P w=.ok (if ok then .tuple #[(gW l s).getD z,.bool (gW l s).isSome] else (gW l s).getD z) w:=by
 obtain⟨es,c,hb,he,hst⟩:=h;have hkey:∀ em,(Instr.checkKey em 10000 K (.string s)).run P w=.ok () w:=fun em=>MapKept.run_checkKey (k:=.string s) hk (by simp[MapKept.IsKey]) em 9999;have hf:=Lo s es.toList l 0 he;rcases hg:gW l s with _|v
 · have hfind:(Instr.findKey K (.string s) es.toList).run P w=.ok none w:=by simp[Instr.findKey,run_underlying hk,(hf.1 hg).1]
   cases ok<;>simp[Instr.lookup,run_underlying ht,MapKept.run_getObj_map hb,hkey,hfind,Result.andThen,hz]
 · obtain⟨j,e1,_⟩:=hf.2 v hg;have hfind:(Instr.findKey K (.string s) es.toList).run P w=.ok (some (0+j,v)) w:=by simp only[Instr.findKey];simp[run_underlying hk,e1]
   cases ok<;>simp[Instr.lookup,run_underlying ht,MapKept.run_getObj_map hb,hkey,hfind,Result.andThen]
theorem Ma (ht:P.underlying T=some (.map K E)) (hk:P.underlying K=some .string) {w:World} {b:Nat} {l:List (ByteArray × Value)} (h:SMap w b l) (s:ByteArray) (v:Value) :
 ∃ o,(Instr.mapUpdate T (.map (some b)) (.string s) v).run P w=.ok () (setBlock w b o)∧SMap (setBlock w b o) b (mV l s v):=by
 have hlt:=h.lt;obtain⟨es,c,hb,he,hst⟩:=h;have hkey:∀ em,(Instr.checkKey em 10000 K (.string s)).run P w=.ok () w:=fun em=>MapKept.run_checkKey (k:=.string s) hk (by simp[MapKept.IsKey]) em 9999;have hf:=Lo s es.toList l 0 he;rcases hg:gW l s with _|u
 · have hfind:(Instr.findKey K (.string s) es.toList).run P w=.ok none w:=by simp[Instr.findKey,run_underlying hk,(hf.1 hg).1]
   have hne:∀ x∈es.toList,x.key≠.string s:=fun x hx e=>by
    have h1:(x.key,x.val)∈es.toList.map ekv:=Zi (f:=ekv) hx;rw[he] at h1;obtain⟨y,hy,e2⟩:=Yo.1 h1;simp only[Prod.mk.injEq] at e2;rw[←e2.1] at e;cases e
    exact uK hg y hy rfl
   refine⟨.map (es.push ⟨.string s,v,c⟩) (c+1),?_,_,_,qB _ _ _ hlt,?_,MapKept.stamped_push hst hne⟩
   · simp[Instr.mapUpdate,run_underlying ht,MapKept.run_getObj_map hb,hkey,hfind,MapKept.run_setObj_map _ hb,Result.andThen]
     rfl
   · rw[Array.toList_push];exact (hf.1 hg).2 v c
 · obtain⟨j,e1,e2,e3⟩:=hf.2 u hg;rw[Xb] at e1;have hfind:(Instr.findKey K (.string s) es.toList).run P w=.ok (some (j,u)) w:=by simp only[Instr.findKey];simp[run_underlying hk,e1]
   refine⟨.map (es.modify j fun e:MapEntry=>{ e with key:=.string s,val:=v }) c,?_,_,_,qB _ _ _ hlt,?_,MapKept.stamped_modify hst j _ (fun _ _=>rfl) (fun e _ hej=>by rw[Xo] at e2;rw[hej] at e2;simp only[Yx,Option.some.injEq] at e2;exact e2.symm)⟩
   · have hes:(es[j]?).map (·.key)=some (.string s):=by rw[←e2];simp
     have hsta:(Instr.keyThatStays (((es[j]?).map (·.key)).getD (.string s)) (.string s)).run P w=.ok (.string s) w:=by
      rw[hes];simp[Instr.keyThatStays,Instr.sameBits,oT]
     simp[Instr.mapUpdate,run_underlying ht,MapKept.run_getObj_map hb,hkey,hfind,hsta,MapKept.run_setObj_map _ hb,Result.andThen]
     rfl
   · rw[←e3 v];simp
end
end
section
open Go.RowKit Go.Sort
def nP (l:List (List UInt8)):List (ByteArray × Value):=l.foldl (fun m s=>mV m ⟨s.toArray⟩ (.bool true)) []
theorem Gb (l:List (List UInt8)) (s:List UInt8):nP (l++[s])=mV (nP l) ⟨s.toArray⟩ (.bool true):=by unfold nP;rw[List.foldl_append];rfl
theorem Ac (s:List UInt8) (t:ByteArray):t=⟨s.toArray⟩↔t.data.toList=s:=by
 constructor
 · rintro rfl;rfl
 · intro h;apply ByteArray.ext;apply Array.toList_inj.1;rw[h]
theorem yF:∀ (l:List (List UInt8)) (m:List (ByteArray × Value)) (t:ByteArray),gW (l.foldl (fun m s=>mV m ⟨s.toArray⟩ (.bool true)) m) t=if t.data.toList∈l then some (.bool true) else gW m t
 | [],m,t=>by simp
 | s::l,m,t=>by
   rw[List.foldl_cons,yF l,uJ,aQe];by_cases h1:t.data.toList∈l
   · simp[h1]
   · by_cases h2:t=⟨s.toArray⟩
     · have h3:=(Ac s t).1 h2;rw[if_neg h1,if_pos (by simpa using h2),if_pos (by rw[h3];exact Qq)]
     · have h3:t.data.toList≠s:=fun e=>h2 ((Ac s t).2 e);rw[if_neg h1,if_neg (by simpa using h2),if_neg (by simp[h1,h3])]
theorem Lr (l:List (List UInt8)) (t:ByteArray):gW (nP l) t=if t.data.toList∈l then some (.bool true) else none:=by
 unfold nP;rw[yF];rfl
theorem Gc (l:List (List UInt8)) (t:ByteArray):(gW (nP l) t).getD (.bool false)=.bool (decide (t.data.toList∈l)):=by
 rw[Lr];by_cases h:t.data.toList∈l<;>simp[h]
end
section
open Go.RowKit Go.Sort
open Go.ChangeMaps
theorem Kb.setBlock {b:Nat} {u w:World} (h:Kb b u w) (o:Obj):Kb b u (setBlock w b o) :=
 ⟨h.os,h.tape,h.output,by rw[setBlock_size];exact h.size,fun k hk hne=>(kX w b o k hne).trans (h.block k hk hne)⟩
theorem xJ {P:Program} {w:World} {ops:Array Oper} {rest:List Oper} {o:Oper} {a:Act} {Q:Exit→Act→World→Prop}
 (hg:o.guard=none) (m x v:Operand) (T:TypeId) (hop:o.op=Op.mapUpdate T m x v) (K E:TypeId) (ht:P.underlying T=some (.map K E)) (hk:P.underlying K=some .string) (b:Nat) (l:List (ByteArray × Value)) (s:ByteArray) (val:Value)
 (hm:a.eval m=.map (some b)) (hx:a.eval x=.string s) (hv:a.eval v=val) (h:SMap w b l)
 (hK:∀ w',SMap w' b (mV l s val)→Kb b w w'→w'.heap.size=w.heap.size→wpList P ops Q rest (a.put o.dst undef) w') :
 wpList P ops Q (o::rest) a w:=by
 refine wpList_plain hg fun K' hK'=>?_;obtain⟨ob,hrun,hs⟩:=Ma ht hk h s val;unfold Oper.wp;simp[execOp,hop,hm,hx,hv,hrun,Result.andThen]
 exact hK' _ _ (hK _ hs ((Kb.refl b w).setBlock ob) (by unfold setBlock;simp))
def SRng (w:World) (b r:Nat) (l left:List (ByteArray × Value)):Prop :=
 ∃ es c since seen c0,w.heap[b]? = some (.map es c)∧es.toList.map ekv=l.map (fun x=>(Value.string x.1,x.2))∧MapKept.Stamped es c ∧
  w.heap[r]? = some (.mapIter (some b) since seen c0)∧(∀ x∈es.toList,x.born<since)∧since≤c0∧since≤c∧(leftOf es seen).toList.map ekv=left.map (fun x=>(Value.string x.1,x.2))
theorem SRng.block {w w':World} {b r:Nat} {l left:List (ByteArray × Value)} (h:SRng w b r l left) (hb:w'.heap[b]? = w.heap[b]?) (hr:w'.heap[r]? = w.heap[r]?):SRng w' b r l left:=by
 obtain⟨es,c,since,seen,c0,h1,h2,h3,h4,h5⟩:=h;exact⟨es,c,since,seen,c0,hb.trans h1,h2,h3,hr.trans h4,h5⟩
theorem SRng.lt {w:World} {b r:Nat} {l left:List (ByteArray × Value)} (h:SRng w b r l left):r<w.heap.size:=by
 obtain⟨es,c,since,seen,c0,h1,h2,h3,h4,h5⟩:=h;exact (Ql.1 h4).1
theorem SRng.ne {w:World} {b r:Nat} {l left:List (ByteArray × Value)} (h:SRng w b r l left):b≠r:=by
 obtain⟨es,c,since,seen,c0,h1,h2,h3,h4,h5⟩:=h;intro e;rw[e,h4] at h1;cases h1
end
end Go.Proofs.YtoigglljnklhlaaGreatDoor
