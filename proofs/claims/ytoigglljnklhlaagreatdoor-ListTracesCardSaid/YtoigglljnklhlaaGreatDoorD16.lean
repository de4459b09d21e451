/- Joined. -/
import Derived.Test.YtoigglljnklhlaaGreatDoorD15
set_option maxHeartbeats 8000000
set_option maxRecDepth 100000
namespace Go.Proofs.YtoigglljnklhlaaGreatDoor
section
open Go.RowKit Go.Sort Go.Shelf
def fV (b:Nat) (A B:World):Prop:=A.heap.size≤B.heap.size∧∀ (k:Nat) (o:Obj),b≤k→A.heap[k]? = some o→o.isCells=true→B.heap[k]? = some o
theorem wM {b:Nat} {A B C:World} (h:fV b A B) (k:fV b B C):fV b A C:=⟨Qn h.1 k.1,fun n o hn ho hc=>k.2 n o hn (h.2 n o hn ho hc) hc⟩
theorem cC {b:Nat} (W:World) (l:Nat) (o o':Obj) (hl:W.heap[l]? = some o) (hc:o.isCells=false):fV b W (W.putObj l o') :=
 ⟨by simp[World.putObj],fun k u _ hu hcu=>by
  refine (World.putObj_heap_other (fun e=>?_)).trans hu;subst e;rw[hl] at hu;cases hu;rw[hc] at hcu;cases hcu⟩
theorem cA {b:Nat} {A B:World} (h:Below A A B):fV b A B:=⟨h.size,fun _k _o _ ho _=>aB ho h (aA ho)⟩
theorem WRow.keepC {A B:World} {b n N:Nat} {v:Value} {xs:List Value} (h:WRow A N v n xs) (hk:fV b A B) (hb:b≤N):WRow B N v n xs:=by
 obtain⟨a,cap,hv,hn,h⟩:=h;refine⟨a,cap,hv,hn,fun hx=>?_⟩;obtain⟨g,o,ha,h0,hg,hc,hf⟩:=h hx;have hpos:0<xs.length:=Yu.2 hx;have hc0:=hc 0 hpos;rw[Qb hpos] at hc0;obtain⟨ob,hob,hcells⟩:=cells_of_cell hc0;have hob':=hk.2 g ob om hob hcells;have he:B.heap[g]? = A.heap[g]? := hob'.trans hob.symm;exact⟨g,o,ha,h0,Qj hg hk.1,fun j hj=>(World.cell?_of_block (a:=⟨g,o+j,none⟩) he).trans (hc j hj),fun j hj=>(World.frozen?_of_block (a:=⟨g,o+j,none⟩) he).trans (hf j hj)⟩
theorem Row.keepC {A B:World} {n:Nat} {v:Value} {xs:List Value} (h:Row A v n xs) (hk:fV 0 A B):Row B v n xs:=by
 obtain⟨a,cap,hv,hn,h⟩:=h;refine⟨a,cap,hv,hn,fun hx=>?_⟩;obtain⟨g,o,ha,hg,hc⟩:=h hx;have hpos:0<xs.length:=Yu.2 hx;have hc0:=hc 0 hpos;rw[Qb hpos] at hc0;obtain⟨ob,hob,hcells⟩:=cells_of_cell hc0;have hob':=hk.2 g ob (Qi _) hob hcells;have he:B.heap[g]? = A.heap[g]? := hob'.trans hob.symm;exact⟨g,o,ha,Qj hg hk.1,fun j hj=>(World.cell?_of_block (a:=⟨g,o+j,none⟩) he).trans (hc j hj)⟩
theorem fG {B:Nat} {W W':World} {row:Option Nat} (hg:W.grownBy W' row) (hr:∀ r,row=some r→B≤r∧∃ o:Obj,W.heap[r]? = some o∧o.isCells=false):fV 0 W W' :=
 ⟨hg.size,fun k o _ ho hc=>(hg.block k (aA ho) (fun e=>by
  obtain⟨_,o',h1,h2⟩:=hr k e.symm;rw[ho] at h1;cases h1;rw[hc] at h2;cases h2)).trans ho⟩
theorem Hi {b g i:Nat} (W:World) (v:Value) (h:g<b):fV b W (W.setCell ⟨g,i,none⟩ v):=⟨by rw[setCell_size];exact Qk _,fun k o hk ho _=>aD ho om⟩
theorem tI {X:World} {k:Nat} {o:Obj} (h:X.heap[k]? = some o):X.drew.heap[k]? = some o:=h
theorem lO {A B:World} (h:Below A A B):KeepsOthers A B:=⟨h.size,fun _k _o ho _=>aB ho h (aA ho)⟩
end
section
open Go.RowKit
variable {F:Fence} {n:Nat} {P:Program}
theorem cM {α:Type} {g:Operand} {ps:Array Tmp} {assign body:Code} {Q:Exit→Act→World→Prop} {a:Act} {w:World}
 (hro:F.round=none) (h1:1≤n) {gf:Nat} {lb:Array Value} (hg:a.eval g=.func (.func gf) #[] lb) (hFg:F.fn gf) (eg:∀ args w,(callFunc gf args).run P w=.ok (.enter gf args) w)
 {encs:α→Array Value} {Kp St:World→World→Prop} {Rdy:World→Prop} {Gv:α→World→Prop} {S Sp:List α→Prop} {N:Nat} (hseq:vS F (n - 1) P gf lb encs Kp St Rdy Gv S Sp N)
 (hrdy:∀ o o',Rdy ((w.alloc o).alloc o')) (hSt:∀ (A B:World) (k:Nat) (o:Obj),St A B→A.heap[k]? = some o→o.isCells=false→o.isWalk=false→B.heap[k]? = some o)
 (hKt:∀ {A B C:World},Kp A B→Kp B C→Kp A C) (hKb:∀ (W:World) (l:Nat) (o o':Obj),w.heap.size≤l→W.heap[l]? = some o→o.isCells=false→o.isWalk=false→Kp W (W.putObj l o')) (hGv:∀ (x:α) (W:World) (l:Nat) (o o':Obj),Gv x W→w.heap.size≤l→W.heap[l]? = some o→o.isCells=false→Gv x (W.putObj l o')) (hps:∀ x,(encs x).size=ps.size)
 (I:List α→World→Prop) (Ix:Code→List α→World→Prop) (hI:OwnFrom w I) (hIs:∀ s A B,I s A→St A B→I s B) (hIx:∀ c,OwnFrom w (Ix c)) (hIxs:∀ c s A B,Ix c s A→St A B→Ix c s B) (h0:I [] w) (a₁:α→World→Act) (W₁:α→World→World) (Ax:α→Act→World→Prop)
 (hassign:∀ (l:Nat) (x:α) (W:World) (K:Act→World→Prop),Gv x W→K (a₁ x W) (W₁ x W) →
  assign.wpIn (F.inRound l) (n - 1 - 1) P (Exit.then K (fun _ _ _=>False)) { tmps:=(ps.zip (encs x)).foldl (fun t (p,v)=>t.setIfInBounds p v) a.tmps,defers:=[] } W)
 (hW1:∀ x W,St W (W₁ x W)) (hKs:∀ x W,Kp W (W₁ x W)) (hGs:∀ x W,Gv x W→Gv x (W₁ x W)) (hAx0:∀ x W,Ax x (a₁ x W) (W₁ x W)) (hAxp:∀ (x:α) (a':Act) (W:World) (l:Nat) (o o':Obj),Ax x a' W→w.heap.size≤l→W.heap[l]? = some o→o.isCells=false→Ax x a' (W.putObj l o'))
 (hbody:∀ (l:Nat) (pre:List α) (x:α) (a':Act) (W:World),I pre W→Gv x W→Ax x a' W→pre.length<N→body.wpIn (F.inRound l) (n - 1 - 1) P (ownPostK Kp I Ix (pre++[x]) W) a' W)
 (hdone:∀ (D:Nat) (xs:List α) (W:World),w.heap.size≤D→S xs→I xs W→W.heap[D]? = some (.deferred (some []))→Q .normal { a with defers:={ target:=.collected D,args:=#[] }::a.defers } W)
 (hstop:∀ (D:Nat) (c:Code) (pre:List α) (W:World),w.heap.size≤D→Sp pre→Ix c pre W→W.heap[D]? = some (.deferred (some []))→c.wpIn F n P Q { a with defers:={ target:=.collected D,args:=#[] }::a.defers } W) :
 (Code.rangeFunc g ps assign body).wpIn F n P Q a w:=by
 refine wpIn_rangeFunc fun fn hfn=>?_;rw[hro]
 let rc:LoopState→Option Code→Loop:=fun st pe=>{ state:=st,pending:=pe,fn,tmps:=a.tmps,params:=ps,assign,body,defers:=w.heap.size }
 have hlen:(w.alloc (.deferred (some []))).heap.size=w.heap.size+1:=by simp
 obtain⟨V,hV⟩:∃ V,(w.alloc (.deferred (some []))).alloc (.loop (rc .ready none))=V:=⟨_,rfl⟩;have hVr:V.heap[w.heap.size+1]? = some (.loop (rc .ready none)):=by
  rw[←hV]
  have:=World.alloc_heap_new (w.alloc (.deferred (some []))) (.loop (rc .ready none))
  rwa [hlen] at this
 have hVd:V.heap[w.heap.size]? = some (.deferred (some [])):=by
  rw[←hV];exact (Below.heap_alloc _ _ _ (by omega)).trans (World.alloc_heap_new w _)
 have hVI:I [] V:=by rw[←hV];exact hI.alloc _ (hI.alloc _ h0)
 have hVR:Rdy V:=by rw[←hV];exact hrdy _ _
 refine⟨w+1,[{ target:=.collected w.heap.size,args:=#[] }],V,{ target:=.fn (.func gf) lb,args:=#[.func (.yield (w.heap.size+1)) #[] #[]] },V,gf,#[.func (.yield (w.heap.size+1)) #[] #[]]++lb,V,?_,?_,?_,?_,fun _=>h1,?_⟩
 · rw[←hV];exact run_enterLoop_outer _ _ _ _ _
 · simp only[resolve,hg];simp[go_sem]
 · intro f' hf';simp[Target.leads] at hf';subst hf';exact hFg
 · simp[invoke,go_sem,eg]
 · refine (hseq (w.heap.size+1)
    (fun pre W=>I pre W∧W.heap[w.heap.size+1]? = some (.loop (rc .ready none))∧W.heap[w.heap.size]? = some (.deferred (some [])))
    (fun pre W=>∃ c,Ix c pre W∧W.heap[w.heap.size+1]? = some (.loop (rc .done (some c)))∧W.heap[w.heap.size]? = some (.deferred (some [])))
    V hVR (fun s A B h hs=>⟨hIs s A B h.1 hs,hSt A B _ _ hs h.2.1 rfl rfl,hSt A B _ _ hs h.2.2 rfl rfl⟩)
    (fun s A B ⟨c,hc,hl,hk⟩ hs=>⟨c,hIxs c s A B hc hs,hSt A B _ _ hs hl rfl rfl,hSt A B _ _ hs hk rfl rfl⟩) ?_ ⟨hVI,hVr,hVd⟩).mono ?_
   · rintro pre x W0 ⟨hi0,hl0,hk0⟩ hg0 hN;have hy:=run_yield (P:=P) (args:=encs x) hl0 (hps x);obtain⟨W,hW⟩:∃ W,W₁ x W0=W:=⟨_,rfl⟩;have hs:=hW1 x W0;have hK0:=hKs x W0;have hg:=hGs x W0 hg0;have hA:=hAx0 x W0;have has:=fun K=>hassign (w.heap.size+1) x W0 K hg0;rw[hW] at hs hK0 hg hA has;have hi:=hIs _ _ _ hi0 hs;have hl:=hSt _ _ _ _ hs hl0 rfl rfl;have hk:=hSt _ _ _ _ hs hk0 rfl rfl;have hlt:w.heap.size+1<W.heap.size:=(Array.getElem?_eq_some_iff.1 hl).1;refine⟨fn,_,assign,body,hy,roundIn_of_wpIn hfn (has _ ⟨_,run_beginRound hl rfl,?_⟩)⟩;obtain⟨U,hU⟩:∃ U,W.putObj (w.heap.size+1) (.loop { rc .ready none with state:=.busy })=U:=⟨_,rfl⟩;have hUl:U.heap[w.heap.size+1]? = some (.loop { rc .ready none with state:=.busy }):=by rw[←hU];exact World.putObj_heap_same hlt
     have hUd:U.heap[w.heap.size]? = some (.deferred (some [])):=by rw[←hU];exact (World.putObj_heap_other (by omega)).trans hk
     have hUK:Kp W0 U:=by rw[←hU];exact hKt hK0 (hKb _ _ _ _ (by omega) hl rfl rfl)
     have hUI:I pre U:=by rw[←hU];exact hI.putObj _ hi (by omega) hl rfl
     rw[hU];have hUG:Gv x U:=by rw[←hU];exact hGv x W _ _ _ hg (by omega) hl rfl
     have hUA:Ax x (a₁ x W0) U:=by rw[←hU];exact hAxp x _ W _ _ _ hA (by omega) hl rfl
     refine wpIn_mono (hbody _ pre x _ U hUI hUG hUA hN) ?_;have fin:∀ (jump:Option Code) (X:World),KeepsOthers U X →
      (Instr.endRound (w.heap.size+1) jump).run P X=.ok (.bool jump.isNone) (X.putObj (w.heap.size+1) (.loop (rc (if jump.isNone then .ready else .done) jump))) ∧
      X.heap[w.heap.size+1]? = some (.loop { rc .ready none with state:=.busy }) ∧
      (X.putObj (w.heap.size+1) (.loop (rc (if jump.isNone then .ready else .done) jump))).heap[w.heap.size+1]? = some (.loop (rc (if jump.isNone then .ready else .done) jump)) ∧
      (X.putObj (w.heap.size+1) (.loop (rc (if jump.isNone then .ready else .done) jump))).heap[w.heap.size]? = some (.deferred (some [])):=fun jump X hX=>by
      have hXl:=hX.same _ _ hUl rfl;exact⟨run_endRound (P:=P) jump hXl,hXl,World.putObj_heap_same (Array.getElem?_eq_some_iff.1 hXl).1,(World.putObj_heap_other (by omega)).trans (hX.same _ _ hUd rfl)⟩
     rintro e a3 X hp;cases e with
     | normal =>
       obtain⟨p1,p2,p3⟩:=hp;obtain⟨r1,r2,r3,r4⟩:=fin none X p1;exact⟨_,_,r1,.inl ⟨rfl,⟨hI.putObj _ p3 (by omega) r2 rfl,r3,r4⟩,hKt (hKt hUK p2) (hKb _ _ _ _ (by omega) r2 rfl rfl)⟩⟩
     | ret =>
       obtain⟨p1,p3⟩:=hp;obtain⟨r1,r2,r3,r4⟩:=fin (some .ret) X p1;exact⟨_,_,r1,.inr ⟨rfl,.ret,(hIx _).putObj _ p3 (by omega) r2 rfl,r3,r4⟩⟩
     | exit id =>
       obtain⟨p1,p3⟩:=hp;obtain⟨r1,r2,r3,r4⟩:=fin (some (.exit id)) X p1;exact⟨_,_,r1,.inr ⟨rfl,.exit id,(hIx _).putObj _ p3 (by omega) r2 rfl,r3,r4⟩⟩
     | goto t =>
       obtain⟨p1,p3⟩:=hp;obtain⟨r1,r2,r3,r4⟩:=fin (some (.goto t)) X p1;exact⟨_,_,r1,.inr ⟨rfl,.goto t,(hIx _).putObj _ p3 (by omega) r2 rfl,r3,r4⟩⟩
     | panic ch=>exact hp.elim
     | outgrown=>exact hp.elim
   · rintro e X ⟨⟨v,rfl⟩,(⟨xs,hS,hi,hl,hk⟩|⟨pre,hSp,c,hi,hl,hk⟩)⟩
     · exact⟨none,_,run_endLoop (P:=P) hl (by simp[rc]),hdone _ xs _ (Nat.le_refl _) hS (hI.putObj _ hi (by omega) hl rfl) ((World.putObj_heap_other (by omega)).trans hk)⟩
     · exact⟨some c,_,run_endLoop (P:=P) hl (by simp[rc]),hstop _ c pre _ (Nat.le_refl _) hSp ((hIx c).putObj _ hi (by omega) hl rfl) ((World.putObj_heap_other (by omega)).trans hk)⟩
end
section
open Go.RowKit Go.Sort Go.Shelf
open Go.Proofs.Tryz
attribute [local go_sem] Oper.semAt_some
structure EntsR (w:World) (N:Nat) (v:Value) (vs:List (Ent × Value)):Prop where
 row:WRow w N v vs.length (sY vs)
 args:∀ x∈vs,WRow w N x.2 x.1.args.length (opc x.1.args)
theorem EntsAt.rows {w:World} {base:Nat} {v:Value} {vs:List (Ent × Value)} (h:EntsAt w base v vs):EntsR w base v vs:=⟨WRow.of_owns h.own,h.args⟩
theorem EntsR.keepC {A B:World} {b N:Nat} {v:Value} {vs:List (Ent × Value)} (h:EntsR A N v vs) (hk:fV b A B) (hb:b≤N):EntsR B N v vs:=⟨h.row.keepC hk hb,fun x hx=>(h.args x hx).keepC hk hb⟩
theorem Ph (vs:List (Ent × Value)):(sY vs).length=vs.length*6:=by
 unfold sY;induction vs with
 | nil=>rfl
 | cons a l ih=>simp[jV] at ih ⊢;omega
theorem zQ:∀ (vs:List (Ent × Value)) (i k:Nat) (x:Ent × Value),vs[i]? = some x→k<6→(sY vs)[i*6+k]? = (jV x)[k]?
 | [],i,k,x,h,_=>by simp at h
 | a::l,0,k,x,h,hk=>by
   simp at h;subst h
   show (jV a++sY l)[0*6+k]? = _
   rw[Yi (by simp[jV];omega)];congr 1;omega
 | a::l,i+1,k,x,h,hk=>by
   have ih:=zQ l i k x (by simpa using h) hk;show (jV a++sY l)[(i+1)*6+k]? = _
   rw[Yf (by simp[jV];omega),←ih];congr 1;simp[jV];omega
theorem EntsR.get {w:World} {N:Nat} {v:Value} {vs:List (Ent × Value)} (h:EntsR w N v vs):∃ a cap,v=.slice a vs.length cap∧vs.length≤cap∧(vs≠[]→∃ g o,a=some ⟨g,o,none⟩∧g<w.heap.size∧∀ i x,vs[i]? = some x →
 w.cell? ⟨g,o+i*6,none⟩=some (.int .i64 x.1.page)∧w.cell? ⟨g,o+i*6+1,none⟩=some (.int .u8 x.1.op)∧w.cell? ⟨g,o+i*6+2,none⟩=some (.string ⟨x.1.mn.toArray⟩)∧w.cell? ⟨g,o+i*6+3,none⟩=some x.2∧w.cell? ⟨g,o+i*6+4,none⟩=some (.string ⟨x.1.extra.toArray⟩)∧w.cell? ⟨g,o+i*6+5,none⟩=some (.bool x.1.alias)):=by
 obtain⟨a,cap,hv,hn,hh⟩:=h.row.row;refine⟨a,cap,hv,hn,fun hne=>?_⟩;have hlen:=Ph vs;obtain⟨g,o,ha,hg,hc⟩:=hh (by intro e;rw[e] at hlen;apply hne;exact Xc (by simp at hlen;omega))
 refine⟨g,o,ha,hg,fun i x hx=>?_⟩;have hi:i<vs.length:=(Qd.1 hx).1;have hk:∀ k,k<6→w.cell? ⟨g,o+i*6+k,none⟩=(jV x)[k]? := fun k hk=>by
  rw[Yb,hc (i*6+k) om,zQ vs i k x hx hk]
 exact⟨hk 0 om,hk 1 om,hk 2 om,hk 3 om,hk 4 om,hk 5 om⟩
theorem Mt {w:World} {base n size:Nat} {e:TypeId} {v:Value} {xs:List Value} (h:w.ownsRow base e size v n xs):n≤maxLen:=by
 rcases h.2 with⟨_,rfl⟩|⟨g,cap,cur,_,_,_,h1,h2,_⟩
 · exact Qi _
 · exact Qn h1 h2
theorem pF:∀ l:List Op3,0<(bW l).length∧(bW l).length≤3∧∀ p∈bW l,p<7
 | []=>by unfold bW;decide
 | o::l=>by
   have ih:=pF l;unfold bW;split
   · decide
   · split
     · decide
     · exact ih
theorem Uc (n b:Nat) (hn:1≤n) (m:List UInt8) (v:Value) (l:List Op3) (hl:l.length≤1000) :
 vS Fence.wide n prog 238 #[.pointer b] (fun x:Ent × Value=>#[cP x.1 x.2]) (fV b) (fun A B=>Below A A B)
  (fun W=>W.heap[b]? = some (.cells #[m,v] 53 (0,0))∧TabsA W∧Row W v l.length (opc l)) (fun x W=>x.1∈dP m (bW l)∧WRow W b x.2 x.1.args.length (opc x.1.args))
  (fun xs=>xs.map Prod.fst=dP m (bW l)) (fun pre=>pre.map Prod.fst <+: dP m (bW l)) (dP m (bW l)).length:=by
 intro lp J Jx W hR hJ hJx hY h0;obtain⟨hblk,hT,hrow⟩:=hR;have hpg:=fun X (hb:Below W W X)=>Gp m v l X (hrow.below hb) hl;obtain⟨hp1,hp2,hp3⟩:=pF l;have hnm:=fun X a c (hb:Below W W X) hr=>Cf m a c (bW l) X (hT.below hb) hp1 om hp3 hr;obtain⟨ps,hps⟩:∃ ps,bW l=ps:=⟨_,rfl⟩;simp only[hps] at hpg hnm hY ⊢;obtain⟨es,hes⟩:∃ es,dP m ps=es:=⟨_,rfl⟩;simp only[hes] at hnm hY ⊢;clear hp1 hp2 hp3 hps hes;have HPG:=Hh hpg;clear hpg;have HNM:=Hh hnm;clear hnm;have HJ:=Hh hJ;clear hJ;have HY:=Hh hY;clear hY;have H0:=Hh h0;clear h0;obtain⟨a,c,rfl,_,_⟩:=hrow;obtain⟨t0,t1,_,_⟩:=aL hblk;have hbl:=aA hblk;have hK:∀ X,Below W W X→X.cell? b=some (.string ⟨m.toArray⟩)∧X.cell? ⟨b,1,none⟩=some (.slice a l.length c):=fun X hb=>⟨(hb.cell (p:=b) hbl).trans t0,(hb.cell (p:=⟨b,1,none⟩) hbl).trans t1⟩;have HK:=Hh hK;clear hK hblk hT;refine callsIn_of_wp func238 rfl trivial ?_ rfl;simp only[ntmps238,Qx,Qp,Qz,Nat.reduceAdd,Nat.reduceSub,Array.replicate_succ,Array.replicate_zero,List.push_toArray,List.append_toArray,Ye,Xy];gi_wp2
 refine wpIn_wide.2 ?_;have hd:Below W W W.drew:=bl;go_region_held3 (fun w'=>w'.cell? b=some (.string ⟨m.toArray⟩)∧w'.cell? ⟨b,1,none⟩=some (.slice a l.length c)) (first|exact⟨t0,t1⟩|exact K4|exact K5) (first|((with_reducible refine (HPG.out _ hd).mono ?_);rintro e w4 ⟨a4,c4,rfl,hr4,hb4⟩;have hbw4:Below W W w4:=hd.trans hb4;have K4:=HK.out w4 hbw4)|((with_reducible refine (HNM.out _ _ _ hbw4 hr4).mono ?_);rintro e w5 ⟨v5,vs,rfl,hvs,hen,hb5⟩;obtain⟨a5,c5,rfl⟩:=aI hen.own;have hbw5:Below W W w5:=hbw4.trans (hb5.mono hbw4.size);have K5:=HK.out w5 hbw5))
 have hlw:W.heap.size≤w4.heap.size:=hbw4.size;have HE5:=Hh hen.rows;have hj5:=HJ.out _ _ _ H0.out hbw5;have HJ5:=Hh hj5;have HVS:=Hh hvs;have hes:es.length=vs.length:=by rw[←hvs,Qs]
 have HLEN:=Hh hes;have hbb:b≤w4:=om
 have HBB:=Hh hbb;have hml:vs.length≤maxLen:=Mt hen.own;unfold maxLen at hml;clear hd hr4 hb4 hbw4 K4 hvs hb5 hen hbw5 K5 hj5 hes hlw hbb t0 t1 H0;gi_wp2
 gi_loopg [11] (vs.length+1) (fun k i wr=>∃ j:Nat,j≤vs.length∧i=.int .i64 j∧Hid (EntsR wr w4 (.slice a5 vs.length c5) vs)∧Hid (J (vs.take j) wr)∧vs.length - j<k)
 case atStart=>exact⟨0,Qi _,rfl,HE5,HJ5,om⟩
 case round =>
  obtain⟨j,hj,rfl,HE,HJR,hk⟩:=hrel;by_cases hlt:j<vs.length
  · obtain⟨x,hx⟩:∃ x,vs[j]? = some x:=⟨_,Qb hlt⟩;obtain⟨_,_,hv,hcap,hh⟩:=HE.out.get;cases hv
    obtain⟨g,o,rfl,hg,hh⟩:=hh (by rintro rfl;exact absurd hlt (Qw _))
    obtain⟨k0,k1,k2,k3,k4,k5⟩:=hh j x hx;have harg:=HE.out.args x (Qu hx);have hmem:x.1∈es:=by rw[←HVS.out];exact Zi (Qu hx)
    have htk:vs.take (j+1)=vs.take j++[x]:=by rw[Qo,hx];rfl
    have hi0:(0:Int)≤(j:Int):=om
    have hi1:(j:Int)<(vs.length:Int):=om
    have hcc:(vs.length:Int)≤(c5:Int):=om
    obtain⟨⟨page,op,mn,args,ex,al⟩,vx⟩:=x;dsimp only at k0 k1 k2 k3 k4 k5 harg hmem;obtain⟨ax,cx,rfl,hcx,_⟩:=harg.op;have hal:Below wr wr (wr.alloc (.cells #[page,.int .u8 op,mn,.slice ax args.length cx,ex,.bool al] 211)):=br.alloc lr _;have hYA:=HY.out (vs.take j) (⟨page,op,mn,args,ex,al⟩,.slice ax args.length cx) (wr.alloc (.cells #[page,.int .u8 op,mn,.slice ax args.length cx,ex,.bool al] 211)) (HJ.out _ _ _ HJR.out hal) ⟨hmem,(harg.below hal).mono HBB.out⟩ (by rw[Qt,HLEN.out];omega);obtain⟨fn,tmps,assign,body,hy,hR⟩:=hYA;have HR:=Hh hR;have HTK:=Hh htk;have HEA:=Hh (HE.out.keepC (cA (b:=b) hal) HBB.out);clear hh harg hmem htk hal hR hx;gi_wp2
    refine HR.out.mono ?_;rintro e W7 (⟨rfl,hJ7,hk7⟩|⟨rfl,hJx7⟩)
    · have HE7:=Hh (HEA.out.keepC hk7 HBB.out);have HJ7:=Hh hJ7;clear hJ7 hk7;gi_wp2
      gi_roundg (vs.length - j)
      case measure=>exact hk
      case rel=>exact⟨j+1,om,by go_num,HE7,Hh (by rw[HTK.out];exact HJ7.out),om⟩
    · have HX7:=Hh hJx7;clear hJx7;gi_wp2
      refine bodyPost_ret (results_none rfl _ _ _) rfl ?_;exact⟨⟨_,rfl⟩,.inr ⟨vs.take (j+1),by rw[←HVS.out,List.map_take];exact List.take_prefix _ _,by rw[HTK.out];exact HX7.out⟩⟩
  · obtain rfl:j=vs.length:=om
    gi_wp2
    go_end0
    exact⟨⟨_,rfl⟩,.inl ⟨vs,HVS.out,by have:=HJR.out;rwa [Qy] at this⟩⟩
end
end Go.Proofs.YtoigglljnklhlaaGreatDoor
