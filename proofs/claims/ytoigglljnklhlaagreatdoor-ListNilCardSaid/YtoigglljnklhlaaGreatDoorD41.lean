/- Joined. -/
import Derived.Test.YtoigglljnklhlaaGreatDoorD39
set_option maxHeartbeats 8000000
set_option maxRecDepth 100000
namespace Go.Proofs.YtoigglljnklhlaaGreatDoor
open Go.RowKit Go.Sort
structure Wk (ops:Array Oper) (s:Nat) (d:Nat→Tmp) (dp:Nat→Value→World→Prop) (A:Act→Prop) (Q:Exit→Act→World→Prop) (w0:World) (n:Nat) (L:Array Bool) (a:Act) (w:World):Prop where
 size:L.size=ops.size
 count:(List.range ops.size).countP (fun i=>!L.getD i true)≤n
 before:L.getD s false=false→A a∧Below w0.heap.size w0 w∧∀ i,L.getD i false=true→dp i (a.tmps.getD (d i) undef) w
 behind:L.getD s false=true→Q .normal a w
 closed:∀ i o,ops[i]? = some o→L.getD i false=true→∀ e∈o.after,Region.binds .any e=true→L.getD e.on false=true
def aBI (P:Program) (ops:Array Oper) (Q:Exit→Act→World→Prop) (d:Nat→Tmp) (dp:Nat→Value→World→Prop) (A:Act→Prop) (w0:World) (i:Nat):Prop :=
 ∃ (o:Oper) (ds:List Nat),ops[i]? = some o∧o.guard=none∧(∀ j∈ds,∃ e∈o.after,Region.binds .any e=true∧e.on=j) ∧
  ∀ (R:Act→World→Prop) a w,A a→Below w0.heap.size w0 w→(∀ j∈ds,dp j (a.tmps.getD (d j) undef) w)→(∀ v w',Below w.heap.size w w'→dp i v w'→R (a.put (some (d i)) v) w')→Oper.wp P o a w R Q
theorem rI {P:Program} {id:Nat} {ops:Array Oper} {Q:Exit→Act→World→Prop} {a0:Act} {w0:World} (hm:P.follows .mixedOrders=true) (s:Nat)
 (d:Nat→Tmp) (dp:Nat→Value→World→Prop) (A:Act→Prop)
 (stable:∀ i v w w',i≠s→dp i v w→Below w.heap.size w w'→dp i v w') (hA0:A a0)
 (hput:∀ i v a,i<ops.size→i≠s→A a→A (a.put (some (d i)) v)∧(a.put (some (d i)) v).tmps.getD (d i) undef=v)
 (inj:∀ i j,i<ops.size→j<ops.size→i≠s→j≠s→d i=d j→i=j)
 (hop:∀ i,i<ops.size→i≠s→aBI P ops Q d dp A w0 i)
 (hst:∃ o,ops[s]? = some o∧o.guard=none∧∀ (R:Act→World→Prop) a w,A a→Below w0.heap.size w0 w→(∀ j,j<ops.size→j≠s→dp j (a.tmps.getD (d j) undef) w)→(∀ a' w',Q .normal a' w'→R a' w')→Oper.wp P o a w R Q)
 (hanc:∀ c:Nat→Bool,(∀ i o,ops[i]? = some o→c i=true→∀ e∈o.after,Region.binds .any e=true→c e.on=true)→(∀ o,ops[s]? = some o→∀ e∈o.after,Region.binds .any e=true→c e.on=true)→∀ i,i<ops.size→i≠s→c i=true)
 (hsel:∀ (i:Nat) (o:Oper),ops[i]? = some o→∀ e∈o.after,Region.binds .any e=true→e.on<i) :
 (Code.region id ops true).wp P Q a0 w0:=by
 have hs0:s<ops.size:=by
  obtain⟨o,ho,_⟩:=hst;exact (Array.getElem?_eq_some_iff.1 ho).1
 have hall:∀ (n:Nat) (L:Array Bool) (a:Act) (w:World),Wk ops s d dp A Q w0 n L a w→Region.ready .any ops L=[]→∀ i,i<ops.size→L.getD i false=true:=by
  intro n L a w h hr i;induction i using Nat.strongRecOn with
  | _ i ih =>
    intro hi;rcases hb:L.getD i false with _|_
    · exfalso
      have ho:ops[i]? = some ops[i]:=Array.getElem?_eq_getElem hi
      have:i∈Region.ready .any ops L:=by
       rw[mem_ready];refine⟨?_,_,ho,fun e he hb=>ih _ (hsel i _ ho e he hb) (Nat.lt_trans (hsel i _ ho e he hb) hi)⟩;rw[←hb];simp[h.size,hi]
      rw[hr] at this;cases this
    · rfl
 have hlt:∀ (L:Array Bool) (i:Nat),L.size=ops.size→L.getD i false=true→i<ops.size:=by
  intro L i hs h;rcases Nat.lt_or_ge i L.size with h' | h'
  · omega
  · simp[Array.getElem?_eq_none h'] at h
 refine mL hm (Wk ops s d dp A Q w0) ?_ ?_ ?_ ?_
 · intro n L a w h hr;exact h.behind (hall n L a w h hr s hs0)
 · intro L a w h;have hc:=h.count;rw[Nat.le_zero,List.countP_eq_zero] at hc;refine List.eq_nil_iff_forall_not_mem.2 fun i hi=>?_;obtain⟨h1,o,ho,_⟩:=mem_ready.1 hi
   have:=hc i (List.mem_range.2 (Array.getElem?_eq_some_iff.1 ho).1)
   rw[h1] at this;simp at this
 · intro n L a w i h hi;obtain⟨hu,o,ho,hdep⟩:=mem_ready.1 hi;obtain⟨hu2,hiL⟩:=Ey hu;have hio:i<ops.size:=(Array.getElem?_eq_some_iff.1 ho).1;have hcount:=vN hiL h.size hu h.count;have hset:∀ (j:Nat),(L.setIfInBounds i true).getD j false=true↔j=i∨L.getD j false=true:=fun j=>oI hiL;have hne:∀ (j:Nat),L.getD j false=true→j≠i:=fun j hj e=>by rw[e,hu2] at hj;cases hj
   have hns:L.getD s false=false:=by
    rcases hb:L.getD s false with _|_
    · rfl
    · exfalso
      by_cases his:i=s
      · rw[his,hb] at hu2;cases hu2
      · have:=hanc (fun j=>L.getD j false) h.closed (fun o ho=>h.closed s o ho hb) i hio his
        rw[hu2] at this;cases this
   obtain⟨hA,hbw,hvals⟩:=h.before hns;have hcl:∀ j o',ops[j]? = some o'→(L.setIfInBounds i true).getD j false=true→∀ e∈o'.after,Region.binds .any e=true→(L.setIfInBounds i true).getD e.on false=true:=by
    intro j o' ho' hj e he hb;rcases (hset j).1 hj with rfl|hj
    · obtain rfl:o=o':=Option.some.inj (ho.symm.trans ho');exact (hset _).2 (.inr (hdep e he hb))
    · exact (hset _).2 (.inr (h.closed j o' ho' hj e he hb))
   by_cases his:i=s
   · subst his;obtain⟨o',ho',hg,hrun⟩:=hst;obtain rfl:o=o':=Option.some.inj (ho.symm.trans ho');refine wpOp_step ho fun R hR=>?_;rw[if_pos (by unfold Region.wanted;rw[hg])];have hal:=hanc (fun j=>L.getD j false) h.closed (fun o' ho' e he hb=>by
      obtain rfl:o=o':=Option.some.inj (ho.symm.trans ho');exact hdep e he hb)
     refine hrun R a w hA hbw (fun j hj hjs=>hvals j (hal j hj hjs)) (fun a' w' hq=>hR _ _ ?_);exact⟨by rw[Array.size_setIfInBounds];exact h.size,hcount,fun hf=>(by rw[(hset i).2 (.inl rfl)] at hf;cases hf),fun _=>hq,hcl⟩
   · obtain⟨o',ds,ho',hg,hds,hrun⟩:=hop i hio his;obtain rfl:o=o':=Option.some.inj (ho.symm.trans ho');refine wpOp_step ho fun R hR=>?_;rw[if_pos (by unfold Region.wanted;rw[hg])];refine hrun R a w hA hbw (fun j hj=>?_) (fun v w' hb hd=>hR _ _ ?_)
     · obtain⟨e,he,hb,rfl⟩:=hds j hj;exact hvals _ (hdep e he hb)
     · have hpt:=hput i v a hio his hA;refine⟨by rw[Array.size_setIfInBounds];exact h.size,hcount,fun _=>⟨hpt.1,hbw.trans (hb.mono hbw.size),fun j hj=>?_⟩,fun hf=>?_,hcl⟩
       · rcases (hset j).1 hj with rfl|hj
         · rw[hpt.2];exact hd
         · have hjs:j≠s:=fun e=>by rw[e,hns] at hj;cases hj
           have hdn:d i≠d j:=fun e=>hne j hj (inj i j hio (hlt L j h.size hj) his hjs e).symm
           have:(a.put (some (d i)) v).tmps.getD (d j) undef=a.tmps.getD (d j) undef:=by
            show (a.tmps.setIfInBounds (d i) v).getD (d j) undef=_
            simp[Array.getElem?_setIfInBounds_ne hdn]
           rw[this];exact stable j _ _ _ hjs (hvals j hj) hb
       · rcases (hset s).1 hf with e|hf
         · exact absurd e.symm his
         · rw[hns] at hf;cases hf
 · have hno:∀ i:Nat,(Array.replicate ops.size false).getD i false=true→False:=by
    intro i hi;rcases Nat.lt_or_ge i ops.size with h' | h'
    · simp[h'] at hi
    · simp[Nat.not_lt.2 h'] at hi
   exact⟨by simp,Nat.le_trans List.countP_le_length sm,fun _=>⟨hA0,br.drew,fun i hi=>(hno i hi).elim⟩,fun hi=>(hno s hi).elim,fun i _ _ hi=>(hno i hi).elim⟩
theorem Mu {w:World} {base g:Nat} {T:TypeId} {sz:Nat} (h:w.heap[g]? = some (Obj.cells #[] T (0,0))) (hb:base≤g):w.ownsRow base T sz (.slice (some ⟨g,0,none⟩) 0 0) 0 [] :=
 ⟨by simp,.inr ⟨g,0,#[],rfl,hb,h,by simp,by simp,by simp,by simp⟩⟩
theorem Rf {w:World} {v:Value} {l:List Op3} (h:Row w v l.length (opc l)) (hn:l=[]→v=.slice none 0 0):eR w v l.length (opc l):=by
 obtain⟨a,c,rfl,hc,h⟩:=h;by_cases hl:l=[]
 · have:=hn hl
   subst hl;exact .inl ⟨rfl,this⟩
 · obtain⟨g,o,rfl,hg,hcs⟩:=h (by intro e;have h3:l.length*3=0:=by { rw[←cG l,e];rfl };exact hl (List.length_eq_zero_iff.1 om))
   refine .inr ⟨_,c,rfl,fun j u hu=>?_⟩;have hj:j<(opc l).length:=(List.getElem?_eq_some_iff.1 hu).1;rw[bD];exact (hcs j hj).trans hu
theorem Dp {w:World} {B g:Nat} {l:List Op3} {v:Value} {C:Array Value} (h:w.ownsRow B 144 3 v l.length (opc l)) (hg:w.heap[g]? = some (.cells C 53 (0,0))):v.ownBlock≠some g:=by
 intro e;rcases h.2 with⟨rfl,_⟩|⟨g',cap,cur,rfl,_,hh,_⟩
 · cases e
 · cases e
   rw[hg] at hh;cases hh
def Ol (k:Nat):Tmp:=match k with|0=>13|1=>14|2=>15|3=>16|4=>17|5=>18|6=>19|7=>8|_=>119
def Vy (k:Nat):Bool:=k == 8 || (13≤k && k≤19)
theorem Ok:∀ k,k<9→k≠8→Vy (Ol k)=true∧Ol k<119:=dc
theorem Td:∀ i,i<9→∀ j,j<9→i≠8→j≠8→Ol i=Ol j→i=j:=dc
def Tf (B b3:Nat) (i:aY) (va:Value) (k:Nat) (v:Value) (w:World):Prop:=match k with
 | 0=>v=.pointer (some ⟨b3,0,none⟩)
 | 1=>v=.string ⟨i.1.toArray⟩
 | 2=>∃ g,v=.slice (some ⟨g,0,none⟩) 0 0∧B≤g∧w.heap[g]? = some (.cells #[] 144 (0,0))
 | 3=>v=.pointer (some ⟨b3,1,none⟩)
 | 4=>v=va
 | 5=>w.ownsRow B 144 3 v i.2.length (opc i.2)
 | 6=>∃ u,v=.agg #[.string ⟨i.1.toArray⟩,u]∧w.ownsRow B 144 3 u i.2.length (opc i.2)
 | 7=>∃ g,v=.pointer (some ⟨g,0,none⟩)∧B≤g∧w.heap[g]? = some (.cells #[.string ⟨#[]⟩,.slice none 0 0] 53 (0,0))
 | _=>False
theorem Cv (B b3:Nat) (i:aY) (va:Value) (k:Nat) (v:Value) (w w':World) (h:Tf B b3 i va k v w) (hb:Below w.heap.size w w'):Tf B b3 i va k v w':=by
 unfold Tf at h ⊢;split at h
 · exact h
 · exact h
 · obtain⟨g,h1,h2,h3⟩:=h;exact⟨g,h1,h2,aB h3 hb (aA h3)⟩
 · exact h
 · exact h
 · exact dG h hb
 · obtain⟨u,h1,h2⟩:=h;exact⟨u,h1,dG h2 hb⟩
 · obtain⟨g,h1,h2,h3⟩:=h;exact⟨g,h1,h2,aB h3 hb (aA h3)⟩
 · exact h
theorem Wm {P:Program} {o:Oper} {a:Act} {w w':World} {R:Act→World→Prop} {Q:Exit→Act→World→Prop} (s x:Operand) (t:TypeId) (ho:o.op=.call { callee:=.builtin .append,args:=#[s,x],argTypes:=#[t,t] }) {v1 v2 v':Value} (hs:a.eval s=v1) (hx:a.eval x=v2) (hr:(Builtin.append_ #[t,t] o.type #[v1,v2]).run P w=.ok v' w') (h:R (a.put o.dst v') w'):Oper.wp P o a w R Q:=by
 unfold Oper.wp;simp[execOp,ho,resolve,invoke,builtin,hs,hx,hr,Result.andThen]
 exact h
theorem Mc {P:Program} {w:World} {B g:Nat} {T t ty:TypeId} {i:TypeInfo} {z:Value} (ht:P.underlying t=some (.slice T)) (hi:P.info? T=some i) (hz:i.zero=some z) (hsz:i.size=3) (hby:i.bytes=24) (hzs:z.cells.size=3) (hB:B≤g) (hg:w.heap[g]? = some (.cells #[] T (0,0))) (hBs:B≤w.heap.size)
 (va:Value) (l:List Op3) (hs:eR w va l.length (opc l)) (hl:l.length≤10) (h1:∀ u∈opc l,u.oneCell'=true) (hne:l=[]→va=.slice none 0 0) :
 ∃ v' w',(Builtin.append_ #[t,t] ty #[.slice (some ⟨g,0,none⟩) 0 0,va]).run P w=.ok v' w'∧w'.ownsRow B T 3 v' l.length (opc l)∧Below w.heap.size w w':=by
 have hE:w.ownsRow B T 3 (.slice (some ⟨g,0,none⟩) 0 0) 0 []:=Mu hg hB;by_cases hn:l=[]
 · rw[hne hn];have hrun:=run_append_owned_none (P:=P) (w:=w) B t ty T i 3 ht hi (.slice (some ⟨g,0,none⟩) 0 0) 0 [] hE;subst hn;exact⟨_,_,hrun,hE,Below.refl _ _⟩
 · rcases hs with⟨h0,_⟩|⟨ad,c,rfl,hc⟩
   · exact absurd (List.length_eq_zero_iff.1 h0) hn
   · have hpos:0<l.length:=List.length_pos_iff.2 hn;obtain⟨v',w',hr,ho,hgr⟩:=run_append_arg_grows (P:=P) w t ty T i z 3 24 ht hi hz hsz hby hzs dc ⟨g,0,none⟩ 0 0 [] rfl (fun j u hu=>by simp at hu) ad l.length c (opc l) (cG l) hc om (by unfold maxLen;omega) om;refine⟨v',w',hr,?_,⟨hgr.os,hgr.tape,hgr.output,hgr.size,fun k hk=>hgr.block k hk sm⟩⟩
     have:=dF ho hBs
     simpa using this
end Go.Proofs.YtoigglljnklhlaaGreatDoor
