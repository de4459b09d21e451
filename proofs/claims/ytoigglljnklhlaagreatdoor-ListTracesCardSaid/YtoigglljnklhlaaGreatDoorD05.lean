/- Joined. -/
import Derived.Test.YtoigglljnklhlaaGreatDoorD04
import Derived.Lib.Fields
set_option maxHeartbeats 8000000
set_option maxRecDepth 100000
namespace Go.Proofs.YtoigglljnklhlaaGreatDoor
section
open Go.RowKit Go.Sort
open Go.ChangeMaps
@[go_sem] theorem setBlock_size (w:World) (m:Nat) (o:Obj):(setBlock w m o).heap.size=w.heap.size:=by simp[setBlock]
theorem qB (w:World) (m:Nat) (o:Obj) (h:m<w):(setBlock w m o).heap[m]? = some o:=by simp[setBlock,h]
theorem kX (w:World) (m:Nat) (o:Obj) (k:Nat) (h:k≠m):(setBlock w m o).heap[k]? = w.heap[k]? := by
 simp[setBlock,Ne.symm h]
theorem Below.setBlock {B:Nat} {a w:World} (h:Below B a w) {m:Nat} (hm:B≤m) (o:Obj):Below B a (setBlock w m o) :=
 ⟨h.os,h.tape,h.output,by rw[setBlock_size];exact h.size,fun k hk=>(kX w m o k om).trans (h.block k hk)⟩
end
section
open Go.RowKit Go.Sort
open Go.ChangeMaps Go.Maps
def aLr (v:Value):Prop:=∃ k ar nr cr s aa na ca al,v=.agg #[.int .i64 k,.slice ar nr cr,.string s,.slice aa na ca,.bool al]
def IMap (w:World) (b:Nat) (l:List Int):Prop:=∃ es c,w.heap[b]? = some (.map es c)∧es.toList.map (fun e=>e.key)=aBQ l∧MapKept.Stamped es c∧∀ e∈es.toList,aLr e.val
theorem IMap.new {w:World} {b:Nat} (h:w.heap[b]? = some (.map #[] 0)):IMap w b []:=⟨#[],0,h,rfl,MapKept.stamped_empty 0,by simp⟩
theorem IMap.lt {w:World} {b:Nat} {l:List Int} (h:IMap w b l):b<w.heap.size:=by
 obtain⟨es,c,h,_⟩:=h;exact (Ql.1 h).1
theorem IMap.maps {w w':World} {b:Nat} {l:List Int} (h:IMap w b l) (hm:∀ (b:Nat) es c,w.heap[b]? = some (.map es c)→w'.heap[b]? = some (.map es c)):IMap w' b l:=by
 obtain⟨es,c,h1,h2,h3⟩:=h;exact⟨es,c,hm _ _ _ h1,h2,h3⟩
theorem IMap.below {w w':World} {b:Nat} {l:List Int} (h:IMap w b l) (hb:Below w w w'):IMap w' b l:=by
 have hlt:=h.lt;obtain⟨es,c,h1,h2,h3⟩:=h;exact⟨es,c,by rw[hb.block b hlt];exact h1,h2,h3⟩
theorem intZ_mem {l:List Int} {n:Int}:Value.int .i64 n∈aBQ l↔n∈l:=by
 unfold aBQ;rw[Yo];exact⟨fun⟨m,h1,h2⟩=>by cases h2;exact h1,fun h=>⟨n,h,rfl⟩⟩
theorem aOb (n:Int):∀ (es:List MapEntry) (l:List Int) (i:Nat),es.map (fun e=>e.key)=aBQ l →
 (n∉l→Instr.findNow (.int .i64) (.int .i64 n) es i=some none)∧(n∈l→∃ r,Instr.findNow (.int .i64) (.int .i64 n) es i=some (some r)∧∃ e∈es,r.2=e.val)
 | [],[],i,_=>⟨fun _=>rfl,fun h=>absurd h Xp⟩
 | [],x::l,i,h=>by simp[aBQ] at h
 | e::es,[],i,h=>by simp[aBQ] at h
 | e::es,x::l,i,h=>by
   simp only[aBQ,Xt,List.cons.injEq] at h;obtain⟨h1,h3⟩:=h;obtain⟨ek,ev,eb⟩:=e;simp only at h1;subst h1;have ih:=aOb n es l (i+1) h3;by_cases hx:n=x
   · subst hx;exact⟨fun h=>absurd Qq h,fun _=>⟨(i,ev),by simp[Instr.findNow,Instr.sameNow],_,Qq,rfl⟩⟩
   · have hb:(n == x)=false:=by simpa using hx
     refine⟨fun h=>?_,fun h=>?_⟩
     · simp only[Instr.findNow,Instr.sameNow,hb,if_true];exact ih.1 fun h'=>h (Qv _ h')
     · simp only[Instr.findNow,Instr.sameNow,hb,if_true];rcases Xg.1 h with h|h
       · exact absurd h hx
       · obtain⟨r,h1,e,h2,h4⟩:=ih.2 h;exact⟨r,h1,e,Qv _ h2,h4⟩
section
variable {P:Program} {T K E:TypeId}
theorem aNQ (ht:P.underlying T=some (.map K E)) (hk:P.underlying K=some (.int .i64)) {z:Value} (hz:∀ w,(zeroValue E).run P w=.ok z w) (hzs:aLr z) {w:World} {b:Nat} {l:List Int} (h:IMap w b l) (n:Int) :
 ∃ v,aLr v∧(Instr.lookup T (.map (some b)) (.int .i64 n) true).run P w=.ok (.tuple #[v,.bool (decide (n∈l))]) w:=by
 obtain⟨es,c,hb,he,hst⟩:=h;have hkey:∀ em,(Instr.checkKey em 10000 K (.int .i64 n)).run P w=.ok () w:=fun em=>MapKept.run_checkKey (k:=.int .i64 n) hk (by simp[MapKept.IsKey]) em 9999;have hf:=aOb n es.toList l 0 he;by_cases hn:n∈l
 · obtain⟨⟨j,v⟩,e1,e2,hm,he2⟩:=hf.2 hn;dsimp only at he2;have hfind:(Instr.findKey K (.int .i64 n) es.toList).run P w=.ok (some (j,v)) w:=by simp only[Instr.findKey];simp[run_underlying hk,e1]
   exact⟨v,by rw[he2];exact hst.2 e2 hm,by simp[Instr.lookup,run_underlying ht,MapKept.run_getObj_map hb,hkey,hfind,Result.andThen,hn]⟩
 · have hfind:(Instr.findKey K (.int .i64 n) es.toList).run P w=.ok none w:=by simp[Instr.findKey,run_underlying hk,hf.1 hn]
   exact⟨z,hzs,by simp[Instr.lookup,run_underlying ht,MapKept.run_getObj_map hb,hkey,hfind,Result.andThen,hz,hn]⟩
theorem aNP (ht:P.underlying T=some (.map K E)) (hk:P.underlying K=some (.int .i64)) {w:World} {b:Nat} {l:List Int} (h:IMap w b l) (n:Int) (hn:n∉l) (v:Value) (hv:aLr v) :
 ∃ o,(Instr.mapUpdate T (.map (some b)) (.int .i64 n) v).run P w=.ok () (setBlock w b o)∧IMap (setBlock w b o) b (l++[n]):=by
 have hlt:=h.lt;obtain⟨es,c,hb,he,hst⟩:=h;have hkey:∀ em,(Instr.checkKey em 10000 K (.int .i64 n)).run P w=.ok () w:=fun em=>MapKept.run_checkKey (k:=.int .i64 n) hk (by simp[MapKept.IsKey]) em 9999;have hf:=aOb n es.toList l 0 he;have hfind:(Instr.findKey K (.int .i64 n) es.toList).run P w=.ok none w:=by simp[Instr.findKey,run_underlying hk,hf.1 hn]
 have hne:∀ x∈es.toList,x.key≠.int .i64 n:=fun x hx e=>by
  have h1:x.key∈es.toList.map (fun e=>e.key):=Zi (f:=fun e:MapEntry=>e.key) hx;rw[he,e] at h1;exact hn (intZ_mem.1 h1)
 refine⟨.map (es.push ⟨.int .i64 n,v,c⟩) (c+1),?_,_,_,qB _ _ _ hlt,?_,MapKept.stamped_push hst.1 hne,fun e he'=>?_⟩
 · simp[Instr.mapUpdate,run_underlying ht,MapKept.run_getObj_map hb,hkey,hfind,MapKept.run_setObj_map _ hb,Result.andThen]
   rfl
 · rw[Array.toList_push,Ym,he];simp[aBQ]
 · rw[Array.toList_push] at he';rcases Xs.1 he' with h|h
   · exact hst.2 e h
   · rw[Yd] at h;subst h;exact hv
end
theorem aMf {P:Program} {w:World} {ops:Array Oper} {rest:List Oper} {o:Oper} {a:Act} {Q:Exit→Act→World→Prop}
 (hg:o.guard=none) (m x v:Operand) (T:TypeId) (hop:o.op=Op.mapUpdate T m x v) (K E:TypeId) (ht:P.underlying T=some (.map K E)) (hk:P.underlying K=some (.int .i64)) (b:Nat) (l:List Int) (n:Int) (val:Value)
 (hm:a.eval m=.map (some b)) (hx:a.eval x=.int .i64 n) (hv:a.eval v=val) (hvs:aLr val) (h:IMap w b l) (hn:n∉l)
 (hK:∀ w',IMap w' b (l++[n])→Kb b w w'→w'.heap.size=w.heap.size→wpList P ops Q rest (a.put o.dst undef) w') :
 wpList P ops Q (o::rest) a w:=by
 refine wpList_plain hg fun K' hK'=>?_;obtain⟨ob,hrun,hs⟩:=aNP ht hk h n hn val hvs;unfold Oper.wp;simp[execOp,hop,hm,hx,hv,hrun,Result.andThen]
 exact hK' _ _ (hK _ hs ⟨rfl,rfl,rfl,Zw (by unfold setBlock;simp),fun k _ hk=>kX w b ob k hk⟩ (by unfold setBlock;simp))
theorem IMap.own {P:Program} {K:TypeId} (hk:P.underlying K=some (.int .i64)) {w:World} {b:Nat} {l:List Int} (h:IMap w b l) (hl:l.length≤maxLen) (hs:∀ x∈l,(Lit.int .i64 x).wf=true) :
 ∃ D:DataW Unit,w.ownsMap P K aCa b l.length D∧Maps.size D=l.length∧(intKeys D).Perm l:=by
 obtain⟨es,c,hb,he,hst⟩:=h;have hlen:es.size=l.length:=by
  have:=congrArg List.length he
  simpa[aBQ] using this
 have hrd:∀ x∈es.toList,∃ y∈l,x.key=.int .i64 y∧Go.WideElems.rd P K aCa x=some (.int .i64 y,.nil):=fun x hx=>by
  have h1:x.key∈es.toList.map (fun e=>e.key):=Zi (f:=fun e:MapEntry=>e.key) hx;rw[he] at h1;obtain⟨y,hy,e⟩:=Yo.1 h1;refine⟨y,hy,e.symm,?_⟩;unfold Go.WideElems.rd;rw[←e,keyOf_int_mk hk (hs y hy)];rfl
 refine⟨.map ((es.toList.map (Go.WideElems.rg P K aCa)).foldr DataW.insert []),⟨es,c,hb,⟨by rw[hlen];exact hl,hst.1,fun x hx=>by obtain⟨y,_,_,h⟩:=hrd x hx;exact⟨_,h⟩⟩,om,rfl⟩,?_,?_⟩
 · rw[size_eq,(Go.WideShapes.sorted_perm _).length_eq,Qs,Xv,hlen]
 · have hp:=(Go.WideShapes.sorted_perm (es.toList.map (Go.WideElems.rg P K aCa))).map (fun p:Lit × DataW Unit=>Go.intOf p.1);refine hp.trans (List.Perm.of_eq ?_);have hl2:l=(es.toList.map fun e=>e.key).map fun v=>Go.intOf (match v with | .int q a=>.int q a|_=>.bool false):=by
    rw[he];unfold aBQ;rw[Zk];exact (List.map_id l).symm
   conv=>rhs;rw[hl2]
   rw[Zk,Zk];refine List.map_congr_left fun x hx=>?_;obtain⟨y,_,e,h⟩:=hrd x hx;simp only[Function.comp_apply,Go.WideElems.rg,h,Yy,e]
theorem aNH {ss l:List Int} (hp:ss.Perm l) (hn:l.Nodup):(ss.mergeSort (fun x y=>decide (x≤y))).Pairwise (·<·):=by
 have h1:(ss.mergeSort (fun x y=>decide (x≤y))).Pairwise (fun a b=>(decide (a≤b))=true):=List.pairwise_mergeSort (fun a b c h1 h2=>by simp only[Qf] at *;omega) (fun a b=>by simp only[Zs,Qf];omega) ss;have h2:(ss.mergeSort (fun x y=>decide (x≤y))).Nodup:=((List.mergeSort_perm ss _).trans hp).nodup_iff.2 hn;exact (List.Pairwise.and h1 h2).imp fun {a b} h=>by
  have:=h.1
  simp only[Qf] at this
  have:=h.2
  omega
end
section
open Go.RowKit Go.Sort
theorem Jl (l:List Op3) (k:Nat):(jJ l k).length=l.length:=by unfold jJ;split<;>simp
theorem aIe (l:List Op3) (k j:Nat):(jJ l k).getD j (0,0,0)=if j=k then ((l.getD j (0,0,0)).1,(l.getD j (0,0,0)).2.1,0) else l.getD j (0,0,0):=by
 unfold jJ;simp only[List.getD];by_cases hj:j=k
 · subst hj;rw[if_pos rfl];cases h:l[j]? with
   | none=>simp[h]
   | some o =>
     have:=(Qd.1 h).1
     simp[this]
 · rw[if_neg hj];cases h:l[k]? with
   | none=>rfl
   | some o=>rw[List.getElem?_set_ne (fun e=>hj e.symm)]
theorem aHa (l:List Op3) (k j:Nat):cX (jJ l k) j=if j=k then 0 else cX l j:=by
 unfold cX;rw[aIe];split<;>rfl
theorem aJF {a b:List Op3} (h:a.length=b.length):a=b↔∀ j,j<a.length→a.getD j (0,0,0)=b.getD j (0,0,0):=by
 constructor
 · rintro rfl _ _;rfl
 · intro hh;apply List.ext_getElem h
   intro j h1 h2
   have:=hh j h1
   simpa[List.getD,Qb h1,Qb h2] using this
theorem aJj {a b:List Op3} (h:kB a=kB b) (j:Nat):(a.getD j (0,0,0)).1=(b.getD j (0,0,0)).1∧(a.getD j (0,0,0)).2.1=(b.getD j (0,0,0)).2.1:=by
 have h2:(kB a)[j]? = (kB b)[j]? := by rw[h]
 unfold kB at h2;rw[Ya,Ya] at h2;simp only[List.getD];cases ha:a[j]? with
 | none=>cases hb:b[j]? with
   | none=>exact⟨rfl,rfl⟩
   | some y=>rw[ha,hb] at h2;simp at h2
 | some x=>cases hb:b[j]? with
   | none=>rw[ha,hb] at h2;simp at h2
   | some y=>rw[ha,hb] at h2;simp at h2;exact h2
theorem Fy {a b:List Op3} (h:kB a=kB b):a.length=b.length:=by
 have:=congrArg List.length h
 simpa[kB] using this
theorem aJc {e:Ent} {x:Nat × UInt8} (h:fM e=some x):x.2≠0:=by
 unfold fM at h;split at h
 · obtain⟨k,_,rfl⟩:=Qr.1 h;exact (by decide:(101:UInt8)≠0)
 · split at h
   · obtain⟨k,_,rfl⟩:=Qr.1 h;exact (by decide:(110:UInt8)≠0)
   · split at h
     · obtain⟨k,_,rfl⟩:=Qr.1 h;exact (by decide:(119:UInt8)≠0)
     · cases h
theorem aJX {x y:Op3} (h1:x.1=y.1) (h2:x.2.1=y.2.1) (h3:x.2.2=y.2.2):x=y:=by
 obtain⟨a,b,c⟩:=x;obtain⟨d,e,f⟩:=y;simp_all
theorem zS {p op:Nat} {e:Ent} (h:qH p op e=true) :
 (∀ k,k<4→k<e.args.length→aV e k=kH e k∧(aV e k≠0→cX e.args k=0))∧e.args.length≤3∧(∀ k,fJ e=some k→k<e.args.length)∧(∀ x,fM e=some x→x.1<e.args.length∧fJ e≠some x.1):=by
 unfold qH at h;simp only[Qe,Xk,Qf,Yn,Option.all_eq_true] at h;obtain⟨⟨⟨⟨⟨⟨⟨⟨⟨h1,h2⟩,h3⟩,h4⟩,_⟩,_⟩,_⟩,_⟩,_⟩,_⟩:=h;exact⟨fun k hk=>h1 k hk,h2,h3,h4⟩
theorem aJu {p op:Nat} {e:Ent} (c:aY) (h:qH p op e=true):aHn e c=(lR e c).isSome:=by
 obtain⟨hL,h3,hd,hn⟩:=zS h;unfold aHn lR;cases hs:cT e c with
 | false=>simp
 | true =>
   rw[if_neg sm,Yp];unfold cT at hs;simp only[Qe,Qf] at hs;have hlen:=Fy hs.2;have hsh:=aJj hs.2;obtain⟨l,hl⟩:∃ l,c.2=l:=⟨_,rfl⟩;rw[hl] at hlen hsh ⊢;have hZ:∀ Z:List Op3,Z.length=l.length→(∀ j,(Z.getD j (0,0,0)).1=(l.getD j (0,0,0)).1∧(Z.getD j (0,0,0)).2.1=(l.getD j (0,0,0)).2.1)→(Z=e.args↔∀ j,j<l.length→cX Z j=cX e.args j):=fun Z hz hg=>by
    rw[aJF (hz.trans hlen.symm),hz];constructor
    · intro q j hj;unfold cX;rw[q j hj]
    · intro q j hj;exact aJX ((hg j).1.trans (hsh j).1.symm) ((hg j).2.trans (hsh j).2.symm) (q j hj)
   have hzk:∀ (m:List Op3) k j,((jJ m k).getD j (0,0,0)).1=(m.getD j (0,0,0)).1∧((jJ m k).getD j (0,0,0)).2.1=(m.getD j (0,0,0)).2.1:=fun m k j=>by rw[aIe];split<;>exact⟨rfl,rfl⟩
   have fin:∀ {a b:Bool},(a=true↔b=true)→a=b:=fun {a b} h=>Yl.2 h;apply fin
   rw[Xk];simp only[Yn];have hlet:∀ j,j<l.length→aV e j=kH e j∧(aV e j≠0→cX e.args j=0):=fun j hj=>hL j om om;unfold We;cases hdi:fJ e with
   | none =>
     unfold Vp;cases hni:fM e with
     | none =>
       simp only[Yp,Qf];have hz:=hZ l rfl (fun j=>⟨rfl,rfl⟩);constructor
       · intro q;rw[if_pos (hz.2 fun j hj=>by
          have:=q j hj
          unfold okR at this;rw[(hlet j hj).1] at this;unfold kH at this;rw[hdi,hni] at this;simp at this
          exact this.symm)]
         rfl
       · intro q j hj;split at q
         · rename_i hq;unfold okR;rw[(hlet j hj).1];unfold kH;rw[hdi,hni];simp
           exact (hz.1 hq j hj).symm
         · cases q
     | some x =>
       obtain⟨k,ch⟩:=x;have hch:=aJc hni;obtain⟨hk,_⟩:=hn _ hni;dsimp only at hch hk;have hz:=hZ (jJ l k) (Jl l k) (hzk l k);have hlp:∀ j,kH e j=if k=j then ch else 0:=fun j=>by unfold kH;rw[hdi,hni];simp
       simp only[Yp,Qe,Qf];constructor
       · intro q;rw[if_pos ⟨by
          have:=q k om
          unfold okR at this;rw[(hlet k om).1,hlp,if_pos rfl,if_neg hch] at this;exact this,hz.2 fun j hj=>by
          rw[aHa]
          have:=q j hj
          unfold okR at this;by_cases hjk:j=k
          · subst hjk;rw[if_pos rfl];exact ((hlet j hj).2 (by rw[(hlet j hj).1,hlp,if_pos rfl];exact hch)).symm
          · rw[if_neg hjk];rw[(hlet j hj).1,show kH e j=0 from (by rw[hlp,if_neg (fun e=>hjk e.symm)]),if_pos rfl,Qf] at this
            exact this.symm⟩]
         rfl
       · intro q j hj;split at q
         · rename_i hq;obtain⟨hq1,hq2⟩:=hq
           have:=hz.1 hq2 j hj
           rw[aHa] at this;unfold okR;rw[(hlet j hj).1,hlp];by_cases hjk:k=j
           · subst hjk;rw[if_pos rfl,if_neg hch];exact hq1
           · rw[if_neg hjk,if_pos rfl,Qf];rw[if_neg (fun e=>hjk e.symm)] at this;exact this.symm
         · cases q
   | some d =>
     have hdk:=hd d hdi;unfold Vp;cases hni:fM e with
     | none =>
       have hz:=hZ (jJ l d) (Jl l d) (hzk l d);have hlp:∀ j,kH e j=if d=j then 100 else 0:=fun j=>by unfold kH;rw[hdi,hni];simp
       simp only[Bool.and_true,Qe,Qf];constructor
       · intro q;rw[if_pos ⟨by
          have:=q d om
          unfold okR at this;rw[(hlet d om).1,hlp,if_pos rfl,if_neg dc] at this;exact this,hz.2 fun j hj=>by
          rw[aHa]
          have:=q j hj
          unfold okR at this;by_cases hjk:j=d
          · subst hjk;rw[if_pos rfl];exact ((hlet j hj).2 (by rw[(hlet j hj).1,hlp,if_pos rfl];decide)).symm
          · rw[if_neg hjk];rw[(hlet j hj).1,show kH e j=0 from (by rw[hlp,if_neg (fun e=>hjk e.symm)]),if_pos rfl,Qf] at this
            exact this.symm⟩]
         rfl
       · intro q j hj;split at q
         · rename_i hq;obtain⟨hq1,hq2⟩:=hq
           have:=hz.1 hq2 j hj
           rw[aHa] at this;unfold okR;rw[(hlet j hj).1,hlp];by_cases hjk:d=j
           · subst hjk;rw[if_pos rfl,if_neg dc];exact hq1
           · rw[if_neg hjk,if_pos rfl,Qf];rw[if_neg (fun e=>hjk e.symm)] at this;exact this.symm
         · cases q
     | some x =>
       obtain⟨k,ch⟩:=x;have hch:=aJc hni;obtain⟨hk,hne⟩:=hn _ hni;dsimp only at hch hk hne;have hkd:k≠d:=fun e=>hne (by rw[hdi,e]);have hz:=hZ (jJ (jJ l d) k) (by rw[Jl,Jl]) (fun j=>⟨(hzk _ k j).1.trans (hzk l d j).1,(hzk _ k j).2.trans (hzk l d j).2⟩);have hlp:∀ j,kH e j=if d=j then 100 else if k=j then ch else 0:=fun j=>by unfold kH;rw[hdi,hni];simp
       simp only[Qe,Qf];constructor
       · intro q;rw[if_pos ⟨⟨by
          have:=q d om
          unfold okR at this;rw[(hlet d om).1,hlp,if_pos rfl,if_neg dc] at this;exact this,by
          have:=q k om
          unfold okR at this;rw[(hlet k om).1,show kH e k=ch from (by rw[hlp,if_neg (fun e=>hkd e.symm),if_pos rfl]),if_neg hch] at this
          rw[aHa,if_neg hkd];exact this⟩,hz.2 fun j hj=>by
          rw[aHa,aHa]
          have:=q j hj
          unfold okR at this;by_cases hjk:j=k
          · subst hjk;rw[if_pos rfl];exact ((hlet j hj).2 (by rw[(hlet j hj).1,show kH e j=ch from (by rw[hlp,if_neg (fun e=>hkd e.symm),if_pos rfl])];exact hch)).symm
          · rw[if_neg hjk];by_cases hjd:j=d
            · subst hjd;rw[if_pos rfl];exact ((hlet j hj).2 (by rw[(hlet j hj).1,hlp,if_pos rfl];decide)).symm
            · rw[if_neg hjd];rw[(hlet j hj).1,show kH e j=0 from (by rw[hlp,if_neg (fun e=>hjd e.symm),if_neg (fun e=>hjk e.symm)]),if_pos rfl,Qf] at this
              exact this.symm⟩]
         rfl
       · intro q j hj;split at q
         · rename_i hq;obtain⟨⟨hq1,hq3⟩,hq2⟩:=hq
           have:=hz.1 hq2 j hj
           rw[aHa,aHa] at this;rw[aHa,if_neg hkd] at hq3;unfold okR;rw[(hlet j hj).1,hlp];by_cases hjd:d=j
           · subst hjd;rw[if_pos rfl,if_neg dc];exact hq1
           · rw[if_neg hjd];by_cases hjk:k=j
             · subst hjk;rw[if_pos rfl,if_neg hch];exact hq3
             · rw[if_neg hjk,if_pos rfl,Qf];rw[if_neg (fun e=>hjk e.symm),if_neg (fun e=>hjd e.symm)] at this;exact this.symm
         · cases q
def keepC (c:aY) (e:Ent):Bool:=!(e.alias || !cT e c)
theorem aHf (f:Ent→Bool) (c:aY):∀ (l:List Ent) (code:Int),kQ f c l code=kQ f c (l.filter (keepC c)) code
 | [],_=>rfl
 | e::l,code=>by
   conv=>lhs;unfold kQ
   cases h:e.alias || !cT e c with
   | true=>rw[List.filter_cons_of_neg (by unfold keepC;rw[h];simp),if_pos rfl];exact aHf f c l code
   | false =>
     rw[List.filter_cons_of_pos (by unfold keepC;rw[h];rfl)]
     conv=>rhs;unfold kQ
     have ih:=aHf f c l 2;cases hf:f e with
     | true=>simp[h]
     | false=>simp[h,ih]
theorem aHr (f g:Ent→Bool) (c:aY):∀ (l:List Ent) (code:Int),(∀ e∈l,f e=g e)→kQ f c l code=kQ g c l code
 | [],_,_=>rfl
 | e::l,code,h=>by
   unfold kQ;rw[h e Qq,aHr f g c l code fun x hx=>h x (Qv _ hx),aHr f g c l 2 fun x hx=>h x (Qv _ hx)]
theorem aHS {α:Type} (g:Nat→Option α) (k:α→Bool) (l:List Nat):(l.filterMap g).filter k=l.filterMap fun x=>(g x).filter k:=by
 induction l with
 | nil=>rfl
 | cons a l ih =>
   rw[List.filterMap_cons,List.filterMap_cons];cases g a with
   | none=>simpa using ih
   | some y=>cases hk:k y with
     | true=>simp[hk,ih,Option.filter]
     | false=>simp[hk,ih,Option.filter]
theorem aIt {α:Type} {f g:Nat→Option α}:∀ l:List Nat,(∀ x∈l,f x=g x)→l.filterMap f=l.filterMap g
 | [],_=>rfl
 | a::l,h=>by
   rw[List.filterMap_cons,List.filterMap_cons,h a Qq,aIt l fun x hx=>h x (Qv _ hx)]
theorem entsL_mem {p:Nat} {e:Ent}:e∈aHg p↔∃ op,op<256∧(atP p op).1=some e:=by
 unfold aHg;simp[List.mem_filterMap]
theorem aIv {p:Nat} (hp:p<7) {e:Ent} (h:e∈aHg p):∃ op,qH p op e=true:=by
 obtain⟨op,ho,h⟩:=entsL_mem.1 h;exact⟨op,Dd hp ho h⟩
theorem De {p op:Nat} {e:Ent} (h:qH p op e=true):∃ r,qD (dN p) op=some r∧r.mn=e.mn∧r.fits op=true∧r∈dN p:=by
 unfold qH at h;simp only[Qe] at h;obtain⟨⟨⟨⟨⟨_,h1⟩,_⟩,_⟩,_⟩,_⟩:=h;split at h1
 · rename_i r hr;simp only[Qe,Qf] at h1;exact⟨r,hr,h1.1.1,h1.1.2,h1.2⟩
 · cases h1
theorem aIO {p:Nat} (hp:p<7) (c:aY):((List.range 256).filterMap (dQ p c.1)).filter (keepC c)=(aHg p).filter (keepC c):=by
 unfold aHg;rw[aHS,aHS];apply aIt
 intro op ho;rw[Yn] at ho;have hkeep:∀ e,keepC c e=true→e.mn=c.1:=fun e h=>by
  unfold keepC cT at h;simp at h
  exact h.2.1
 cases ha:(atP p op).1 with
 | none =>
   have:dQ p c.1 op=none:=by
    unfold dQ;rw[ha];split
    · rfl
    · split
      · rfl
      · split<;>rfl
   rw[this]
 | some e =>
   obtain⟨r,h1,h2,h3,h4⟩:=De (Dd hp ho ha);by_cases hm:r.mn=c.1
   · have:dQ p c.1 op=some e:=by
      unfold dQ;rw[if_neg (by
       rw[Bool.not_eq_false,Xx];exact⟨r,by unfold aAy;rw[Zr];exact⟨h4,by simpa using hm⟩,h3⟩),h1,ha]
      dsimp only;rw[if_pos hm]
     rw[this]
   · have:dQ p c.1 op=none:=by
      unfold dQ;split
      · rfl
      · rw[h1];dsimp only;rw[if_neg hm]
     rw[this];cases hk:keepC c e with
     | false=>simp[hk,Option.filter]
     | true=>exact absurd (h2.trans (hkeep e hk)) hm
theorem aHC {α β:Type} (f g:α→List β) (k:β→Bool):∀ l:List α,(∀ x∈l,(f x).filter k=(g x).filter k)→(l.flatMap f).filter k=(l.flatMap g).filter k
 | [],_=>rfl
 | a::l,h=>by
   rw[Xz,Xz,List.filter_append,List.filter_append,h a Qq,aHC f g k l fun x hx=>h x (Qv _ hx)]
theorem aHt:∀ l:List Op3,(sD l=[0,1,2]∧∀ o∈l,zF o.1 o.2.1≠5∧zF o.1 o.2.1≠6)∨(sD l=[3,5]∧∃ o∈l,zF o.1 o.2.1=5)∨(sD l=[4,6]∧∃ o∈l,zF o.1 o.2.1=6)
 | []=>.inl ⟨rfl,fun o h=>by cases h⟩
 | o::l=>by
   unfold sD;by_cases h5:zF o.1 o.2.1=5
   · rw[if_pos h5];exact .inr (.inl ⟨rfl,o,Qq,h5⟩)
   · rw[if_neg h5];by_cases h6:zF o.1 o.2.1=6
     · rw[if_pos h6];exact .inr (.inr ⟨rfl,o,Qq,h6⟩)
     · rw[if_neg h6];rcases aHt l with⟨h,k⟩|⟨h,x,hx,k⟩|⟨h,x,hx,k⟩
       · exact .inl ⟨h,fun y hy=>by rcases Xg.1 hy with rfl|hy;exact⟨h5,h6⟩;exact k y hy⟩
       · exact .inr (.inl ⟨h,x,Qv _ hx,k⟩)
       · exact .inr (.inr ⟨h,x,Qv _ hx,k⟩)
theorem aJd {o:Op3} (h:zF o.1 o.2.1=5∨zF o.1 o.2.1=6):aOV o=true:=by
 unfold zF at h;unfold aOV;split at h
 · simp_all
 · split at h
   · rename_i h2;split at h
     · rename_i h3;simp[h3];omega
     · split at h
       · rename_i h3;simp[h3];omega
       · simp at h
   · simp at h
theorem aJZ {o:Op3} (h:aOV o=true) (hk:o.1=2→0≤o.2.1∧o.2.1≤3):zF o.1 o.2.1=5∨zF o.1 o.2.1=6:=by
 unfold aOV at h;unfold zF;simp at h
 by_cases h2:o.1=2
 · rw[if_pos h2];obtain⟨h3,h4⟩:=hk h2;by_cases h5:o.2.1=0∨o.2.1=1
   · rw[if_pos h5];exact .inl rfl
   · rw[if_neg h5,if_pos om];exact .inr rfl
 · rw[if_neg h2];rcases h with h|⟨⟨h3,h4⟩,h5⟩
   · exact absurd h h2
   · rw[if_pos om];rcases h5 with h5|h5
     · rw[if_pos h5];exact .inl rfl
     · rw[if_neg om,if_pos h5];exact .inr rfl
theorem aHX {e:Ent} {c:aY} (h:cT e c=true) {o:Op3} (ho:o∈c.2):∃ x∈e.args,x.1=o.1∧x.2.1=o.2.1:=by
 unfold cT at h;simp only[Qe,Qf] at h
 have:(o.1,o.2.1)∈kB c.2:=Yo.2 ⟨o,ho,rfl⟩
 rw[←h.2] at this;obtain⟨x,hx,e⟩:=Yo.1 this;simp at e
 exact⟨x,hx,e⟩
theorem aHh {p op:Nat} {e:Ent} (h:qH p op e=true):((p=3∨p=5)→∀ o∈e.args,zF o.1 o.2.1≠6)∧((p=4∨p=6)→∀ o∈e.args,zF o.1 o.2.1≠5):=by
 unfold qH at h;simp only[Qe] at h;obtain⟨⟨⟨⟨⟨⟨_,h1⟩,_⟩,_⟩,_⟩,_⟩,_⟩:=h;constructor
 · intro hp o ho;rw[if_pos hp,Qe,Xk] at h1
   have:=h1.2 o ho
   simp at this
   omega
 · intro hp o ho;rw[if_neg om,if_pos hp,Qe,Xk] at h1
   have:=h1.2 o ho
   simp at this
   omega
theorem aHj {c:aY} {p:Nat} (hp:p<7) {v:Int} (hv:∃ o∈c.2,zF o.1 o.2.1=v) (h:∀ op e,qH p op e=true→∀ o∈e.args,zF o.1 o.2.1≠v):(aHg p).filter (keepC c)=[]:=by
 rw[List.filter_eq_nil_iff];intro e he hk;obtain⟨op,hop⟩:=aIv hp he;unfold keepC at hk;simp at hk
 obtain⟨o,ho,hov⟩:=hv;obtain⟨x,hx,h1,h2⟩:=aHX hk.2 ho;exact h op e hop x hx (by rw[h1,h2];exact hov)
theorem aIU (c:aY) (hc:∀ o∈c.2,o.1=2→0≤o.2.1∧o.2.1≤3):Dc c=aIb c:=by
 have hpg:∀ ps:List Nat,(∀ p∈ps,p<7)→(dP c.1 ps).filter (keepC c)=(ps.flatMap aHg).filter (keepC c):=fun ps hps=>aHC _ _ _ ps fun p hp=>aIO (hps p hp) c;have hpp:(dP c.1 (sD c.2)).filter (keepC c)=((aHe c.2).flatMap aHg).filter (keepC c):=by
  rcases aHt c.2 with⟨h,k⟩|⟨h,o,ho,k⟩|⟨h,o,ho,k⟩
  · rw[h,hpg _ dc]
    have:aHe c.2=[0,1,2]:=by
     unfold aHe;rw[if_neg];rw[Xx];rintro⟨o,ho,hi⟩;rcases aJZ hi (hc o ho) with q|q
     · exact (k o ho).1 q
     · exact (k o ho).2 q
    rw[this]
  · rw[h,hpg _ dc]
    have:aHe c.2=[3,4,5,6]:=by
     unfold aHe;rw[if_pos (Xx.2 ⟨o,ho,aJd (.inl k)⟩)]
    rw[this];have e4:=aHj (c:=c) (p:=4) dc ⟨o,ho,k⟩ (fun op e h=>(aHh h).2 (.inl rfl));have e6:=aHj (c:=c) (p:=6) dc ⟨o,ho,k⟩ (fun op e h=>(aHh h).2 (.inr rfl));simp[e4,e6]
  · rw[h,hpg _ dc]
    have:aHe c.2=[3,4,5,6]:=by
     unfold aHe;rw[if_pos (Xx.2 ⟨o,ho,aJd (.inr k)⟩)]
    rw[this];have e3:=aHj (c:=c) (p:=3) dc ⟨o,ho,k⟩ (fun op e h=>(aHh h).1 (.inl rfl));have e5:=aHj (c:=c) (p:=5) dc ⟨o,ho,k⟩ (fun op e h=>(aHh h).1 (.inr rfl));simp[e3,e5]
 unfold Dc aIb;rw[aHf,hpp,aHf (fun e=>aHn e c)];apply aHr
 intro e he;have he2:=(Zr.1 he).1;obtain⟨p,hp,hpe⟩:=Zq.1 he2;have hp7:p<7:=by
  unfold aHe at hp;split at hp
  · simp at hp;omega
  · simp at hp;omega
 obtain⟨op,hop⟩:=aIv hp7 hpe;exact (aJu c hop).symm
def mQ:List (List UInt8)→List UInt8
 | []=>[]
 | [t]=>t
 | t::ts=>t++59::mQ ts
theorem oD:∀ (t:List UInt8),(∀ b∈t,b≠59)→Lib.index t [59]=-1
 | [],_=>rfl
 | b::l,h=>by
   have hb:b≠59:=h b Qq;have ih:=oD l fun x hx=>h x (Qv _ hx);unfold Lib.index;have hp:([59]:List UInt8).isPrefixOf (b::l)=false:=by
    simp[List.isPrefixOf]
    exact fun e=>hb e.symm
   rw[hp,ih];rfl
theorem qF:∀ (t u:List UInt8),(∀ b∈t,b≠59)→Lib.index (t++59::u) [59]=t.length
 | [],u,_=>by
   show Lib.index (59::u) [59]=0
   unfold Lib.index;have hp:([59]:List UInt8).isPrefixOf (59::u)=true:=by simp[List.isPrefixOf]
   rw[hp];rfl
 | b::l,u,h=>by
   have hb:b≠59:=h b Qq;have ih:=qF l u fun x hx=>h x (Qv _ hx);show Lib.index (b::(l++59::u)) [59]=_
   unfold Lib.index;have hp:([59]:List UInt8).isPrefixOf (b::(l++59::u))=false:=by
    simp[List.isPrefixOf]
    exact fun e=>hb e.symm
   rw[hp,ih];have hne:((l.length:Int) == -1)=false:=by rw[Xd];omega
   rw[hne];simp
theorem Do {t:List UInt8} (h:∀ b∈t,b≠59):Lib.cut t [59]=(t,[],false):=by
 unfold Lib.cut;rw[oD t h];rfl
theorem Dn {t u:List UInt8} (h:∀ b∈t,b≠59):Lib.cut (t++59::u) [59]=(t,u,true):=by
 unfold Lib.cut;rw[qF t u h,if_pos om];have e1:(t++59::u).take ((t.length:Int)).toNat=t:=by rw[Xl,List.take_left' rfl]
 have e2:(t++59::u).drop (((t.length:Int)).toNat+([59]:List UInt8).length)=u:=by
  rw[Xl,show t.length+([59]:List UInt8).length=t.length+1 from rfl,←Zn,List.drop_left' rfl]
  rfl
 rw[e1,e2]
theorem Jb {t:List UInt8} {ts:List (List UInt8)} (h:∀ b∈t,b≠59):Lib.cut (mQ (t::ts)) [59]=(t,mQ ts,decide (ts≠[])):=by
 cases ts with
 | nil=>exact Do h
 | cons u us=>exact (Dn h).trans sm
def jI (op:Nat) (i:Nat) (c:UInt8):Bool:=(c == 48 || c == 49) && decide ((c - 48).toNat≠(op >>> (7 - i))%2)
def eH (t:List UInt8) (op:Nat):Bool:=!t.isEmpty && (List.range (min t.length 8)).all fun i=>!jI op i (t.getD i 0)
def iU:List Rule:=mainR++cbR++edR
theorem zM:∀ r∈iU,∀ op:Fin 256,eH r.text op.val=r.fits op.val:=by decide +kernel
def aPj (w2:List UInt8):List (List UInt8):=(Lib.splitB ⟨#[44]⟩ 0 (Lib.countB ⟨w2.toArray⟩ ⟨#[44]⟩) ⟨w2.toArray⟩).map (·.data.toList)
def iY (r:Rule):Bool :=
 let w:=Lib.fields r.text
 decide (2≤w.length) && decide (w.getD 0 []=r.bits) && decide (w.getD 1 []=r.mn) && decide ((w.getD (w.length - 1) []=[42])↔r.alias=true) &&
 (if 2<w.length∧w.getD 2 []≠[42] then decide (aPj (w.getD 2 [])=r.args) else decide (r.args=[])) &&
 r.text.all (fun b=>decide (b.toNat<128)) && decide (9≤r.text.length) && decide ((Lib.cut (r.text.drop 9) [32]).1=r.mn) && r.text.all (fun b=>decide (b≠59)) && decide (r.bits.length=8) && decide (r.text.length≤100) && decide (r.args.length≤3)
theorem xZ:∀ r∈iU,iY r=true:=by decide +kernel
abbrev qC:ByteArray:=⟨#[48,48,48,48,48,48,48,48,32,78,79,80,59,48,48,48,48,49,48,48,48,32,69,88,32,65,70,44,65,70,39,59,48,48,48,49,48,48,48,48,32,68,74,78,90,32,101,59,48,48,48,49,49,48,48,48,32,74,82,32,101,59,48,48,49,107,107,48,48,48,32,74,82,32,107,44,101,59,48,48,112,112,48,48,48,49,32,76,68,32,112,44,119,59,48,48,112,112,49,48,48,49,32,65,68,68,32,72,76,44,112,59,48,48,48,48,48,48,49,48,32,76,68,32,40,66,67,41,44,65,59,48,48,48,49,48,48,49,48,32,76,68,32,40,68,69,41,44,65,59,48,48,49,48,48,48,49,48,32,76,68,32,40,119,41,44,72,76,59,48,48,49,49,48,48,49,48,32,76,68,32,40,119,41,44,65,59,48,48,48,48,49,48,49,48,32,76,68,32,65,44,40,66,67,41,59,48,48,48,49,49,48,49,48,32,76,68,32,65,44,40,68,69,41,59,48,48,49,48,49,48,49,48,32,76,68,32,72,76,44,40,119,41,59,48,48,49,49,49,48,49,48,32,76,68,32,65,44,40,119,41,59,48,48,112,112,48,48,49,49,32,73,78,67,32,112,59,48,48,112,112,49,48,49,49,32,68,69,67,32,112,59,48,48,114,114,114,49,48,48,32,73,78,67,32,114,59,48,48,114,114,114,49,48,49,32,68,69,67,32,114,59,48,48,114,114,114,49,49,48,32,76,68,32,114,44,110,59,48,48,48,48,48,49,49,49,32,82,76,67,65,59,48,48,48,48,49,49,49,49,32,82,82,67,65,59,48,48,48,49,48,49,49,49,32,82,76,65,59,48,48,48,49,49,49,49,49,32,82,82,65,59,48,48,49,48,48,49,49,49,32,68,65,65,59,48,48,49,48,49,49,49,49,32,67,80,76,59,48,48,49,49,48,49,49,49,32,83,67,70,59,48,48,49,49,49,49,49,49,32,67,67,70,59,48,49,49,49,48,49,49,48,32,72,65,76,84,59,48,49,114,114,114,115,115,115,32,76,68,32,114,44,115,59,49,48,48,48,48,115,115,115,32,65,68,68,32,65,44,115,59,49,48,48,48,49,115,115,115,32,65,68,67,32,65,44,115,59,49,48,48,49,48,115,115,115,32,83,85,66,32,115,59,49,48,48,49,49,115,115,115,32,83,66,67,32,65,44,115,59,49,48,49,48,48,115,115,115,32,65,78,68,32,115,59,49,48,49,48,49,115,115,115,32,88,79,82,32,115,59,49,48,49,49,48,115,115,115,32,79,82,32,115,59,49,48,49,49,49,115,115,115,32,67,80,32,115,59,49,49,99,99,99,48,48,48,32,82,69,84,32,99,59,49,49,113,113,48,48,48,49,32,80,79,80,32,113,59,49,49,48,48,49,48,48,49,32,82,69,84,59,49,49,48,49,49,48,48,49,32,69,88,88,59,49,49,49,48,49,48,48,49,32,74,80,32,40,72,76,41,59,49,49,49,49,49,48,48,49,32,76,68,32,83,80,44,72,76,59,49,49,99,99,99,48,49,48,32,74,80,32,99,44,119,59,49,49,48,48,48,48,49,49,32,74,80,32,119,59,49,49,48,49,48,48,49,49,32,79,85,84,32,40,110,41,44,65,59,49,49,48,49,49,48,49,49,32,73,78,32,65,44,40,110,41,59,49,49,49,48,48,48,49,49,32,69,88,32,40,83,80,41,44,72,76,59,49,49,49,48,49,48,49,49,32,69,88,32,68,69,44,72,76,59,49,49,49,49,48,48,49,49,32,68,73,59,49,49,49,49,49,48,49,49,32,69,73,59,49,49,99,99,99,49,48,48,32,67,65,76,76,32,99,44,119,59,49,49,113,113,48,49,48,49,32,80,85,83,72,32,113,59,49,49,48,48,49,49,48,49,32,67,65,76,76,32,119,59,49,49,48,48,48,49,49,48,32,65,68,68,32,65,44,110,59,49,49,48,48,49,49,49,48,32,65,68,67,32,65,44,110,59,49,49,48,49,48,49,49,48,32,83,85,66,32,110,59,49,49,48,49,49,49,49,48,32,83,66,67,32,65,44,110,59,49,49,49,48,48,49,49,48,32,65,78,68,32,110,59,49,49,49,48,49,49,49,48,32,88,79,82,32,110,59,49,49,49,49,48,49,49,48,32,79,82,32,110,59,49,49,49,49,49,49,49,48,32,67,80,32,110,59,49,49,116,116,116,49,49,49,32,82,83,84,32,116]⟩
abbrev cbS:ByteArray:=⟨#[48,48,48,48,48,115,115,115,32,82,76,67,32,115,59,48,48,48,48,49,115,115,115,32,82,82,67,32,115,59,48,48,48,49,48,115,115,115,32,82,76,32,115,59,48,48,48,49,49,115,115,115,32,82,82,32,115,59,48,48,49,48,48,115,115,115,32,83,76,65,32,115,59,48,48,49,48,49,115,115,115,32,83,82,65,32,115,59,48,48,49,49,48,115,115,115,32,83,76,76,32,115,59,48,48,49,49,49,115,115,115,32,83,82,76,32,115,59,48,49,98,98,98,115,115,115,32,66,73,84,32,98,44,115,59,49,48,98,98,98,115,115,115,32,82,69,83,32,98,44,115,59,49,49,98,98,98,115,115,115,32,83,69,84,32,98,44,115]⟩
abbrev edS:ByteArray:=⟨#[48,49,49,49,48,48,48,48,32,73,78,32,40,67,41,59,48,49,114,114,114,48,48,48,32,73,78,32,114,44,40,67,41,59,48,49,49,49,48,48,48,49,32,79,85,84,32,40,67,41,44,48,59,48,49,114,114,114,48,48,49,32,79,85,84,32,40,67,41,44,114,59,48,49,112,112,48,48,49,48,32,83,66,67,32,72,76,44,112,59,48,49,112,112,49,48,49,48,32,65,68,67,32,72,76,44,112,59,48,49,49,48,48,48,49,49,32,76,68,32,40,119,41,44,72,76,32,42,59,48,49,49,48,49,48,49,49,32,76,68,32,72,76,44,40,119,41,32,42,59,48,49,112,112,48,48,49,49,32,76,68,32,40,119,41,44,112,59,48,49,112,112,49,48,49,49,32,76,68,32,112,44,40,119,41,59,48,49,48,48,48,49,48,48,32,78,69,71,59,48,49,120,120,120,49,48,48,32,78,69,71,32,42,59,48,49,48,48,49,49,48,49,32,82,69,84,73,59,48,49,48,48,48,49,48,49,32,82,69,84,78,59,48,49,120,120,120,49,48,49,32,82,69,84,78,32,42,59,48,49,48,48,48,49,49,48,32,73,77,32,48,59,48,49,48,49,48,49,49,48,32,73,77,32,49,59,48,49,48,49,49,49,49,48,32,73,77,32,50,59,48,49,120,48,120,49,49,48,32,73,77,32,48,32,42,59,48,49,49,49,48,49,49,48,32,73,77,32,49,32,42,59,48,49,49,49,49,49,49,48,32,73,77,32,50,32,42,59,48,49,48,48,48,49,49,49,32,76,68,32,73,44,65,59,48,49,48,48,49,49,49,49,32,76,68,32,82,44,65,59,48,49,48,49,48,49,49,49,32,76,68,32,65,44,73,59,48,49,48,49,49,49,49,49,32,76,68,32,65,44,82,59,48,49,49,48,48,49,49,49,32,82,82,68,59,48,49,49,48,49,49,49,49,32,82,76,68,59,49,48,49,48,48,48,48,48,32,76,68,73,59,49,48,49,48,48,48,48,49,32,67,80,73,59,49,48,49,48,48,48,49,48,32,73,78,73,59,49,48,49,48,48,48,49,49,32,79,85,84,73,59,49,48,49,48,49,48,48,48,32,76,68,68,59,49,48,49,48,49,48,48,49,32,67,80,68,59,49,48,49,48,49,48,49,48,32,73,78,68,59,49,48,49,48,49,48,49,49,32,79,85,84,68,59,49,48,49,49,48,48,48,48,32,76,68,73,82,59,49,48,49,49,48,48,48,49,32,67,80,73,82,59,49,48,49,49,48,48,49,48,32,73,78,73,82,59,49,48,49,49,48,48,49,49,32,79,84,73,82,59,49,48,49,49,49,48,48,48,32,76,68,68,82,59,49,48,49,49,49,48,48,49,32,67,80,68,82,59,49,48,49,49,49,48,49,48,32,73,78,68,82,59,49,48,49,49,49,48,49,49,32,79,84,68,82]⟩
theorem nZ:qC=⟨(mQ (mainR.map (·.text))).toArray⟩:=by kernel_rfl
theorem Du:cbS=⟨(mQ (cbR.map (·.text))).toArray⟩:=by kernel_rfl
theorem Pm:edS=⟨(mQ (edR.map (·.text))).toArray⟩:=by kernel_rfl
end
end Go.Proofs.YtoigglljnklhlaaGreatDoor
