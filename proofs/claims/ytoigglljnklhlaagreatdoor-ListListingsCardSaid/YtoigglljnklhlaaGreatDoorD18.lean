/- Joined. -/
import Derived.Test.YtoigglljnklhlaaGreatDoorD17
set_option maxHeartbeats 8000000
set_option maxRecDepth 100000
namespace Go.Proofs.YtoigglljnklhlaaGreatDoor
open Go.RowKit Go.Sort
def opsT:List UInt8:=[65,68,67,32,65,68,68,32,65,78,68,32,66,73,84,32,67,65,76,76,32,67,67,70,32,67,80,32,67,80,68,32,67,80,68,82,32,67,80,73,32,67,80,73,82,32,67,80,76,32,68,65,65,32,68,69,67,32,68,73,32,68,74,78,90,32,69,73,32,69,88,32,69,88,88,32,72,65,76,84,32,73,77,32,73,78,32,73,78,67,32,73,78,68,32,73,78,68,82,32,73,78,73,32,73,78,73,82,32,74,80,32,74,82,32,76,68,32,76,68,68,32,76,68,68,82,32,76,68,73,32,76,68,73,82,32,78,69,71,32,78,79,80,32,79,82,32,79,84,68,82,32,79,84,73,82,32,79,85,84,32,79,85,84,68,32,79,85,84,73,32,80,79,80,32,80,85,83,72,32,82,69,83,32,82,69,84,32,82,69,84,73,32,82,69,84,78,32,82,76,32,82,76,65,32,82,76,67,32,82,76,67,65,32,82,76,68,32,82,82,32,82,82,65,32,82,82,67,32,82,82,67,65,32,82,82,68,32,82,83,84,32,83,66,67,32,83,67,70,32,83,69,84,32,83,76,65,32,83,76,76,32,83,82,65,32,83,82,76,32,83,85,66,32,88,79,82]
def opsL:List (List UInt8):=[
 [65,68,67],[65,68,68],[65,78,68],[66,73,84],[67,65,76,76],[67,67,70],[67,80],[67,80,68],
 [67,80,68,82],[67,80,73],[67,80,73,82],[67,80,76],[68,65,65],[68,69,67],[68,73],[68,74,78,90],
 [69,73],[69,88],[69,88,88],[72,65,76,84],[73,77],[73,78],[73,78,67],[73,78,68],
 [73,78,68,82],[73,78,73],[73,78,73,82],[74,80],[74,82],[76,68],[76,68,68],[76,68,68,82],
 [76,68,73],[76,68,73,82],[78,69,71],[78,79,80],[79,82],[79,84,68,82],[79,84,73,82],[79,85,84],
 [79,85,84,68],[79,85,84,73],[80,79,80],[80,85,83,72],[82,69,83],[82,69,84],[82,69,84,73],[82,69,84,78],
 [82,76],[82,76,65],[82,76,67],[82,76,67,65],[82,76,68],[82,82],[82,82,65],[82,82,67],
 [82,82,67,65],[82,82,68],[82,83,84],[83,66,67],[83,67,70],[83,69,84],[83,76,65],[83,76,76],
 [83,82,65],[83,82,76],[83,85,66],[88,79,82]]
theorem yJ:Lib.fields opsT=opsL:=by decide +kernel
theorem Mx:opsL.length=68:=by decide +kernel
def iR (i:aY):Int:=if i.1∉opsL then 12 else if 3<i.2.length then 11 else if i.2.any (fun o=>!bP o.1 o.2.1 o.2.2) then 2 else 0
def gO (i:aY):Option Ent × Int:=if iR i=0 then Dc (bV i) else (none,iR i)
def aHx (i:aY):Option Ent × Int:=if iR i=0 then aIb (bV i) else (none,iR i)
theorem To {m:List UInt8} {l:List Op3} {o:Op3} (h:o∈exP m l):o∈l:=by
 unfold exP at h;split at h
 · rename_i hc;rw[hc.2];simp only[List.mem_cons,List.not_mem_nil,or_false] at h ⊢;exact h.symm
 · exact h
theorem Qv {i:aY} {o:Op3} (h:o∈fU i):o=(1,7,0)∨o∈i.2:=by
 unfold fU at h;split at h
 · exact .inr (List.mem_of_mem_tail h)
 · split at h
   · rcases List.mem_cons.1 h with h|h
     · exact .inl h
     · exact .inr h
   · exact .inr h
theorem Dv {i:aY} {o:Op3} (h:o∈(bV i).2):o=(1,7,0)∨∃ x∈i.2,o.1=x.1∧o.2.1=x.2.1:=by
 unfold bV at h;obtain⟨x,hx,rfl⟩:=List.mem_map.1 h;rcases Qv (To hx) with rfl|hx
 · left;rfl
 · right
   refine⟨x,hx,?_⟩;unfold sC;split<;>exact⟨rfl,rfl⟩
theorem aKc (r n:Int) (h:bP 2 r n=true):0≤r∧r≤3:=by
 unfold bP at h;simp only[Bool.and_eq_true,decide_eq_true_eq] at h;obtain⟨⟨⟨⟨⟨⟨_,_⟩,h1⟩,h2⟩,h3⟩,_⟩,_⟩:=h;refine⟨h1,?_⟩;obtain⟨k,rfl⟩:∃ k:Nat,r=k:=⟨r.toNat,om⟩
 have hk:k=0∨k=1∨k=2∨k=3∨k=4∨k=5∨k=6∨k=7∨k=8:=om
 rcases hk with rfl|rfl|rfl|rfl|rfl|rfl|rfl|rfl|rfl<;>first|omega|(revert h3;decide +kernel)
theorem aJw (i:aY):gO i=aHx i:=by
 unfold gO aHx;split
 · rename_i hc;apply aIU
   intro o ho h2;rcases Dv ho with rfl|⟨x,hx,h1,h3⟩
   · exact absurd h2 dc
   · rw[h3];have hv:bP x.1 x.2.1 x.2.2=true:=by
      unfold iR at hc;split at hc
      · cases hc
      · split at hc
        · cases hc
        · split at hc
          · cases hc
          · rename_i hn;rw[List.any_eq_true] at hn;cases hb:bP x.1 x.2.1 x.2.2 with
            | true=>rfl
            | false=>exact absurd ⟨x,hx,by rw[hb];rfl⟩ hn
     rw[←h1,h2] at hv;exact aKc _ _ hv
 · rfl
def eK (t:Option (Nat × Int × Int)) (s:List UInt8 × List Op3):Int × List UInt8 × List Op3 :=
 match t with
 | none=>(0,s)
 | some (k,lo,hi)=>if (decide (lo≤cX s.2 k) && decide (cX s.2 k≤hi))=true then (cX s.2 k,s.1,jJ s.2 k) else (cX s.2 k,[],s.2)
def dT (e:Ent):Option (Nat × Int × Int):=(fJ e).map fun k=>(k,-128,127)
def nT (e:Ent):Option (Nat × Int × Int):=(fM e).map fun x=>(x.1,(cO x.2).1,(cO x.2).2)
theorem kI (s:List UInt8 × List Op3):eK none s=(0,s):=rfl
theorem gY (k:Nat) (lo hi:Int) (m:List UInt8) (l:List Op3):eK (some (k,lo,hi)) (m,l)=if (decide (lo≤cX l k) && decide (cX l k≤hi))=true then (cX l k,m,jJ l k) else (cX l k,[],l):=rfl
theorem xN (t:Option (Nat × Int × Int)) (s:List UInt8 × List Op3):(eK t s).2.2.length=s.2.length:=by
 unfold eK;cases t with
 | none=>rfl
 | some x =>
   obtain⟨k,lo,hi⟩:=x;dsimp only;split
   · exact Jl _ _
   · rfl
theorem Qg:(cO 100).1=-128∧(cO 100).2=127:=by unfold cO;simp
theorem Ig (e:Ent) (m:List UInt8) (l:List Op3) (hs:cT e (m,l)=true) (hm:m≠[]) :
 lR e (m,l)=if (eK (nT e) (eK (dT e) (m,l)).2).2.1=e.mn∧(eK (nT e) (eK (dT e) (m,l)).2).2.2=e.args then some ((eK (dT e) (m,l)).1,(eK (nT e) (eK (dT e) (m,l)).2).1) else none:=by
 have hmn:e.mn=m:=by
  unfold cT at hs;simp only[Bool.and_eq_true,decide_eq_true_eq] at hs;exact hs.1
 have hne:([]:List UInt8)≠m:=fun q=>hm q.symm;unfold lR;rw[if_neg (by rw[hs];decide)];unfold We Vp dT nT;have hw:∀ c n,bM c n=(decide ((cO c).1≤n) && decide (n≤(cO c).2)):=tM;have hb:=Qg;rw[hmn];cases hd:fJ e with
 | none =>
   cases hn:fM e with
   | none=>simp[kI]
   | some x =>
     obtain⟨k,c⟩:=x;simp only[kI,gY,Option.map_none,Option.map_some,hw,Bool.true_and];obtain⟨B,hB⟩:∃ B,(decide ((cO c).1≤cX l k) && decide (cX l k≤(cO c).2))=B:=⟨_,rfl⟩;simp only[hB];cases B<;>simp[hne]
 | some d =>
   simp only[gY,Option.map_some,hw,hb.1,hb.2];obtain⟨A,hA⟩:∃ A,(decide ((-128:Int)≤cX l d) && decide (cX l d≤127))=A:=⟨_,rfl⟩;simp only[hA];cases hn:fM e with
   | none=>cases A<;>simp[kI,hne]
   | some x =>
     obtain⟨k,c⟩:=x;simp only[Option.map_some];cases A with
     | true =>
       simp only[if_true,Bool.true_and,gY];obtain⟨B,hB⟩:∃ B,(decide ((cO c).1≤cX (jJ l d) k) && decide (cX (jJ l d) k≤(cO c).2))=B:=⟨_,rfl⟩;simp only[hB];cases B<;>simp[hne]
     | false =>
       simp only[Bool.false_eq_true,if_false,Bool.false_and,gY];obtain⟨B,hB⟩:∃ B,(decide ((cO c).1≤cX l k) && decide (cX l k≤(cO c).2))=B:=⟨_,rfl⟩;simp only[hB];cases B<;>simp[hne]
theorem Gr:opsL.all (fun m=>decide ((cH ⟨m.toArray⟩).data.toList=m) && decide (m≠[]) && decide (m.length≤4))=true:=by decide +kernel
theorem Xk {m:List UInt8} (h:m∈opsL):cH ⟨m.toArray⟩=⟨m.toArray⟩∧m≠[]∧m.length≤4:=by
 have:=List.all_eq_true.1 Gr m h
 simp only[Bool.and_eq_true,decide_eq_true_eq] at this;refine⟨?_,this.1.2,this.2⟩;apply ByteArray.ext
 apply Array.toList_inj.1
 rw[this.1.1]
end Go.Proofs.YtoigglljnklhlaaGreatDoor
namespace Go.Proofs.YtoigglljnklhlaaGreatDoor
open Go.RowKit Go.Sort
open Go.Proofs.Tryz
def Fl (t:Option (Nat × Int × Int)) (w:World) (k:Int) (f:Value) (there:Bool) (n:Nat):Prop :=
 match t with
 | none=>there=false∧(f=.nilFunc∨∃ fn b1 b2,f=.func (.func fn) #[] #[.pointer (some ⟨b1,0,none⟩),.pointer (some ⟨b2,0,none⟩)])
 | some (k',lo,hi)=>there=true∧k=k'∧InF w 0 lo hi f∧k'<n
theorem sU (t:Option (Nat × Int × Int)) (k:Int) (f:Value) (there:Bool) (b base:Nat) (m:List UInt8) (v:Value) (l:List Op3) (w:World) (ht:Fl t w k f there l.length) (hb:w.heap[b]? = some (.cells #[.string ⟨m.toArray⟩,v] 53 (0,0))) (hr:WRow w base v l.length (opc l)) (hbb:v.ownBlock≠some b) (hl:l.length≤1000) :
 Calls prog 243 #[.agg #[.int .i64 k,f],.bool there,.pointer (some ⟨b,0,none⟩)] w fun e w'=>e=.returned (.int .i64 (eK t (m,l)).1)∧w'.heap[b]? = some (.cells #[.string ⟨(eK t (m,l)).2.1.toArray⟩,v] 53 (0,0))∧WRow w' base v l.length (opc (eK t (m,l)).2.2)∧Below (min b base) w w':=by
 cases t with
 | none =>
   obtain⟨rfl,hf⟩:=ht;refine (Oy _ f k b w rfl hf).mono ?_;rintro e w' ⟨rfl,hbel⟩;exact⟨rfl,aB hb hbel (aA hb),hr.below hbel,hbel.mono (by have:=aA hb;omega)⟩
 | some x =>
   obtain⟨k',lo,hi⟩:=x;obtain⟨rfl,rfl,hin,hk⟩:=ht;obtain⟨o,ho⟩:∃ o,l[k']? = some o:=⟨_,List.getElem?_eq_getElem hk⟩;have hn:cX l k'=o.2.2:=by unfold cX;simp[List.getD,ho]
   have hz:jJ l k'=l.set k' (o.1,o.2.1,0):=by unfold jJ;rw[ho]
   cases hc:(decide (lo≤o.2.2) && decide (o.2.2≤hi)) with
   | true =>
     have hT:eK (some (k',lo,hi)) (m,l)=(o.2.2,m,l.set k' (o.1,o.2.1,0)):=by unfold eK;dsimp only;rw[hn,hc,hz];rfl
     rw[hT];exact Oz lo hi f k' b base m v l o w hin hb hr hbb hl ho hc
   | false =>
     have hT:eK (some (k',lo,hi)) (m,l)=(o.2.2,[],l):=by unfold eK;dsimp only;rw[hn,hc];rfl
     rw[hT];exact Ii lo hi f k' b base m v l o w hin hb hr hbb hl ho hc
theorem vL (e:Ent) (w:World) (f:Value) (h:InF w 0 (-128) 127 f):Fl (dT e) w (dK [5] e.args) f (decide (100∈e.extra) && decide (0≤dK [5] e.args)) e.args.length:=by
 rw[Tw];unfold dT;cases hd:fJ e with
 | none =>
   obtain⟨b1,b2,rfl,_⟩:=h;exact⟨rfl,.inr ⟨_,_,_,rfl⟩⟩
 | some k =>
   obtain⟨h1,h2⟩:=Tx hd;exact⟨rfl,h1,h,h2⟩
theorem uS (e:Ent) (w:World) (f:Value) (h1:∀ lo hi,(cW e.extra e.args).2=some (lo,hi)→InF w 0 lo hi f) (h2:(cW e.extra e.args).2=none→f=.nilFunc):Fl (nT e) w (cW e.extra e.args).1 f ((cW e.extra e.args).2.isSome && decide (0≤(cW e.extra e.args).1)) e.args.length:=by
 rw[Sf];unfold nT;cases hd:fM e with
 | none =>
   refine⟨rfl,?_⟩;cases hs:(cW e.extra e.args).2 with
   | none=>exact .inl (h2 hs)
   | some x =>
     obtain⟨b1,b2,rfl,_⟩:=h1 x.1 x.2 hs;exact .inr ⟨_,_,_,rfl⟩
 | some x =>
   obtain⟨k,c⟩:=x;obtain⟨h3,h4,h5⟩:=Es hd;exact⟨rfl,h3,h1 _ _ h4,h5⟩
def tR (t:Option (Nat × Int × Int)) (x:Int) (l:List Op3):Bool × List Op3 :=
 match t with
 | none=>(decide (x=0),l)
 | some (k,lo,hi)=>(decide (lo≤x) && decide (x≤hi),setN l k x)
theorem Vl (e:Ent) (d:Int):tR (dT e) d e.args=(dOk e d,oP e d):=by
 unfold dT dOk oP tR;rcases fJ e with _|k
 · rfl
 · simp[bM]
theorem Vk (e:Ent) (n:Int) (l:List Op3):tR (nT e) n l=(nOk e n,qT e l n):=by
 unfold nT nOk qT tR;rcases h:fM e with _|⟨k,c⟩
 · rfl
 · rcases fE h with rfl|rfl|rfl<;>simp[bM,cO]
theorem yG (t:Option (Nat × Int × Int)) (x:Int) (l:List Op3):(tR t x l).2.length=l.length:=by
 unfold tR;split
 · rfl
 · exact xT _ _ _
theorem Pc (v f:Value) (p x:Int) (b:Nat) (w:World) (hv:v=.agg #[.int .i64 p,f]) (hf:f=.nilFunc∨∃ fn b1 b2,f=.func (.func fn) #[] #[.pointer (some ⟨b1,0,none⟩),.pointer (some ⟨b2,0,none⟩)]) :
 Calls prog 231 #[v,.bool false,.int .i64 x,.pointer (some ⟨b,0,none⟩)] w fun e w'=>e=.returned (.bool (decide (x=0)))∧Below w.heap.size w w':=by
 subst hv;have hx:(x == 0)=decide (x=0):=by by_cases h:x=0<;>simp[h]
 obtain⟨R,hR⟩:∃ R,decide (x=0)=R:=⟨_,rfl⟩;rw[hR] at hx ⊢;clear hR;rcases hf with rfl|⟨fn,b1,b2,rfl⟩
 · go_enter func231,ntmps231
   go_wp2_with fail
   go_ret;exact⟨rfl,bl⟩
 · go_enter func231,ntmps231
   go_wp2_with fail
   go_ret;exact⟨rfl,bl⟩
theorem Is (B:Nat) (lo hi x:Int) (f:Value) (k b base:Nat) (m:List UInt8) (v:Value) (l:List Op3) (o:Op3) (w:World) (hf:InF w B lo hi f) (hvB:∀ q,v.ownBlock=some q→q<B) (hb:w.heap[b]? = some (.cells #[.string ⟨m.toArray⟩,v] 53 (0,0))) (hr:ORow w base v l.length (opc l)) (hbb:v.ownBlock≠some b) (hl:l.length≤1000) (ho:l[k]? = some o) :
 Calls prog 231 #[.agg #[.int .i64 k,f],.bool true,.int .i64 x,.pointer (some ⟨b,0,none⟩)] w fun e w'=>e=.returned (.bool (decide (lo≤x) && decide (x≤hi)))∧w'.heap[b]? = some (.cells #[.string ⟨m.toArray⟩,v] 53 (0,0))∧ORow w' base v l.length (opc (l.set k (o.1,o.2.1,x)))∧w.grownBy w' v.ownBlock:=by
 obtain⟨b1,b2,rfl,hB1,hB2,hl1,hl2,c1,c2⟩:=hf;have hlt:k<l.length:=(List.getElem?_eq_some_iff.1 ho).1;have HSET:=Hh hr;obtain⟨g,off,c,hoff,rfl,_,hg0,hg1,hh⟩:=hr.op (by rintro rfl;exact absurd hlt (Nat.not_lt_zero _))
 have HOFF:=Hh hoff;clear hoff;have hgB:=hvB g rfl;have hn1:b1≠g:=om
 have hn2:b2≠g:=om
 have hn3:=hn1.symm;have hn4:=hn2.symm;have hbg:b≠g:=fun e=>hbb (congrArg some e.symm);have hgb:g≠b:=hbg.symm;have HS2:=Hh (ORow.setN (m:=x) HOFF.out HSET.out ho);obtain⟨k0,k1,k2,f0,f1,f2⟩:=hh k o ho;obtain⟨t0,t1,s0,s1⟩:=aL hb;have hbl:=aA hb;have hi0:(0:Int)≤(k:Int):=om
 have hi1:(k:Int)<(l.length:Int):=om
 obtain⟨R,hR⟩:∃ R,(decide (lo≤x) && decide (x≤hi))=R:=⟨_,rfl⟩;rw[hR];have HIN:Hid (∀ W:World,W.cell? ⟨b1,0,none⟩=some (.int .i64 lo)→W.cell? ⟨b2,0,none⟩=some (.int .i64 hi)→Calls prog 287 #[.int .i64 x,.pointer (some ⟨b1,0,none⟩),.pointer (some ⟨b2,0,none⟩)] W fun e w'=>e=.returned (.bool R)∧Below W.heap.size W w'):=Hh (fun W h1 h2=>hR ▸ wS x lo hi b1 b2 W h1 h2);have HB:=Hh hb;clear hh hR hb hr hvB hbb HSET;go_enter func231,ntmps231
 go_wp2_with fail
 have e1:((w.setCell ⟨g,off+k*3+2,none⟩ (.int .i64 x)).alloc (.cells #[.int .i64 k,.func (.func 287) #[] #[.pointer (some ⟨b1,0,none⟩),.pointer (some ⟨b2,0,none⟩)]] 291)).cell? ⟨b1,0,none⟩=some (.int .i64 lo):=by simp[go_sem,c1,hl1]
 have e2:((w.setCell ⟨g,off+k*3+2,none⟩ (.int .i64 x)).alloc (.cells #[.int .i64 k,.func (.func 287) #[] #[.pointer (some ⟨b1,0,none⟩),.pointer (some ⟨b2,0,none⟩)]] 291)).cell? ⟨b2,0,none⟩=some (.int .i64 hi):=by simp[go_sem,c2,hl2]
 (with_reducible refine (HIN.out _ e1 e2).mono ?_);rintro e w2 ⟨rfl,hb2⟩;have HB2:=Hh hb2;clear hb2 e1 e2;go_wp2_with fail
 go_ret;have hbx:=aE (o':=(.cells #[.int .i64 k,.func (.func 287) #[] #[.pointer (some ⟨b1,0,none⟩),.pointer (some ⟨b2,0,none⟩)]] 291)) (aD (i:=off+k*3+2) (v:=.int .i64 x) HB.out hbg);refine⟨rfl,aB hbx HB2.out (aA hbx),ORow.below (ORow.below HS2.out (br.alloc lr (.cells #[.int .i64 k,.func (.func 287) #[] #[.pointer (some ⟨b1,0,none⟩),.pointer (some ⟨b2,0,none⟩)]] 291))) HB2.out,?_⟩;have h2:=HB2.out;refine⟨h2.os,h2.tape,h2.output,Nat.le_trans (by simp[go_sem]) h2.size,fun q hq hne=>?_⟩;rw[h2.block q (by simp[go_sem];omega),Below.heap_alloc _ _ _ (by simp[go_sem];omega)];exact Below.heap_setCell _ ⟨g,off+k*3+2,none⟩ _ _ (fun e=>hne (by rw[e];rfl))
theorem InF.below {w w':World} {b:Nat} {lo hi:Int} {f:Value} (h:InF w b lo hi f) (hb:Below w.heap.size w w'):InF w' b lo hi f:=by
 obtain⟨b1,b2,hf,h1,h2,h3,h4,c1,c2⟩:=h;exact⟨b1,b2,hf,h1,h2,Nat.lt_of_lt_of_le h3 hb.size,Nat.lt_of_lt_of_le h4 hb.size,(hb.cell (p:=⟨b1,0,none⟩) h3).trans c1,(hb.cell (p:=⟨b2,0,none⟩) h4).trans c2⟩
theorem iC {w w':World} {row:Option Nat} {k:Nat} {o:Obj} (h:w.grownBy w' row) (hk:w.heap[k]? = some o) (hne:some k≠row):w'.heap[k]? = some o:=(h.block k (aA hk) hne).trans hk
theorem vI (B:Nat) (t:Option (Nat × Int × Int)) (k x:Int) (f:Value) (there:Bool) (b base:Nat) (m:List UInt8) (v:Value) (l:List Op3) (w:World) (ht:Fl t w k f there l.length) (hB:∀ lo hi,(t.map (·.2))=some (lo,hi)→InF w B lo hi f) (hvB:∀ q,v.ownBlock=some q→q<B) (hb:w.heap[b]? = some (.cells #[.string ⟨m.toArray⟩,v] 53 (0,0))) (hr:ORow w base v l.length (opc l)) (hbb:v.ownBlock≠some b) (hl:l.length≤1000) :
 Calls prog 231 #[.agg #[.int .i64 k,f],.bool there,.int .i64 x,.pointer (some ⟨b,0,none⟩)] w fun e w'=>e=.returned (.bool (tR t x l).1)∧w'.heap[b]? = some (.cells #[.string ⟨m.toArray⟩,v] 53 (0,0))∧ORow w' base v l.length (opc (tR t x l).2)∧w.grownBy w' v.ownBlock:=by
 cases t with
 | none =>
   obtain⟨rfl,hf⟩:=ht;refine (Pc _ f k x b w rfl hf).mono ?_;rintro e w' ⟨rfl,hbel⟩;exact⟨rfl,aB hb hbel (aA hb),hr.below hbel,⟨hbel.os,hbel.tape,hbel.output,hbel.size,fun k hk _=>hbel.block k hk⟩⟩
 | some y =>
   obtain⟨k',lo,hi⟩:=y;obtain⟨rfl,rfl,hin,hk⟩:=ht;obtain⟨o,ho⟩:∃ o,l[k']? = some o:=⟨_,List.getElem?_eq_getElem hk⟩;have hs:setN l k' x=l.set k' (o.1,o.2.1,x):=by unfold setN;rw[ho]
   have hT:tR (some (k',lo,hi)) x l=(decide (lo≤x) && decide (x≤hi),l.set k' (o.1,o.2.1,x)):=by unfold tR;dsimp only;rw[hs]
   rw[hT];exact Is B lo hi x f k' b base m v l o w (hB lo hi rfl) hvB hb hr hbb hl ho
def wU (o:Option (Int × Int)):Value:=match o with|some (d,n)=>.tuple #[.int .i64 d,.int .i64 n,.bool true]|none=>.tuple #[.int .i64 0,.int .i64 0,.bool false]
theorem InF.mono {w:World} {b b':Nat} {lo hi:Int} {f:Value} (h:InF w b lo hi f) (hb:b'≤b):InF w b' lo hi f:=by
 obtain⟨b1,b2,h1,h2,h3,h4⟩:=h;exact⟨b1,b2,h1,om,om,h4⟩
theorem Bd {E:Ent} {m:List UInt8} {l:List Op3} (h:cT E (m,l)=true):E.args.length=l.length∧E.mn=m:=by
 unfold cT at h;simp only[Bool.and_eq_true,decide_eq_true_eq] at h;exact⟨Fy h.2,h.1⟩
theorem Sb {w:World} {base n size:Nat} {e:TypeId} {v:Value} {xs:List Value} (h:w.ownsRow base e size v n xs):v.ownBlock≠some w.heap.size:=fun e=>by
 have:=(h.lt _ e).2
 omega
theorem Ln (E:Ent) (ve:Value) (m:List UInt8) (v:Value) (l:List Op3) (w:World) (he:Row w ve E.args.length (opc E.args)) (hr:Row w v l.length (opc l)) (hel:E.args.length≤1000) (hem:E.mn.length≤1000) (hl:l.length≤1000) (hm:m.length≤1000) (hs:cT E (m,l)=false) :
 Calls prog 203 #[cP E ve,eU m v] w fun e w'=>e=.returned (wU none)∧Below w.heap.size w w':=by
 have hsh:=fun X (hb:Below w.heap.size w X)=>mX E ve m v l X (he.below hb) (hr.below hb) hel hem hl hm;rw[hs] at hsh;obtain⟨page,op,mn,args,ex,al⟩:=E;dsimp only at he hel hem hsh;obtain⟨a,c,rfl,_,_⟩:=hr;obtain⟨ae,ce,rfl,_,_⟩:=he;have HS:=Hh hsh;clear hsh hs;show Calls prog 203 #[.agg #[.int .i64 page,.int .u8 op,.string ⟨mn.toArray⟩,.slice ae args.length ce,.string ⟨ex.toArray⟩,.bool al],.agg #[.string ⟨m.toArray⟩,.slice a l.length c]] w _
 go_enter func203,ntmps203
 go_wp2_with fail
 have hbW:Below w.heap.size w ((w.alloc (.cells #[.int .i64 page,.int .u8 op,.string ⟨mn.toArray⟩,.slice ae args.length ce,.string ⟨ex.toArray⟩,.bool al] 211)).alloc (.cells #[.string ⟨m.toArray⟩,.slice a l.length c] 53)):=(br.alloc lr _).alloc sm _;refine (HS.out _ hbW).mono ?_;rintro e w1 ⟨rfl,hb1⟩;have HB:=Hh (hbW.trans (hb1.mono hbW.size));clear hbW hb1;go_wp2_with fail
 refine bodyPost_ret (v:=wU none) (by simp[results,results203,go_sem,wU]) rfl ⟨rfl,HB.out⟩
theorem Fz (E:Ent) (ve:Value) (m:List UInt8) (v:Value) (l:List Op3) (w:World) (he:Row w ve E.args.length (opc E.args)) (hr:Row w v l.length (opc l)) (hel:E.args.length≤1000) (hem:E.mn.length≤1000) (hl:l.length≤1000) (hm:m.length≤1000) (hup:cH ⟨m.toArray⟩=⟨m.toArray⟩) (hs:cT E (m,l)=true)
 (dn nn:Int) (m1 m2:List UInt8) (l1 l2:List Op3) (hd:eK (dT E) (m,l)=(dn,m1,l1)) (hn:eK (nT E) (m1,l1)=(nn,m2,l2)) (r:Bool) (hres:decide (m2=E.mn∧l2=E.args)=r) :
 Calls prog 203 #[cP E ve,eU m v] w fun e w'=>e=.returned (wU (if r=true then some (dn,nn) else none))∧Below w.heap.size w w':=by
 have hsh:=fun X (hb:Below w.heap.size w X)=>mX E ve m v l X (he.below hb) (hr.below hb) hel hem hl hm;rw[hs] at hsh;have hlen:=(Bd hs).1;have hl1:l1.length=l.length:=by have:=xN (dT E) (m,l);rw[hd] at this;exact this
 have hl2:l2.length=l.length:=by have:=xN (nT E) (m1,l1);rw[hn] at this;exact this.trans hl1
 have hdis:=fun X (hb:Below w.heap.size w X)=>mS E ve X (he.below hb) hel;have hnum:=fun X (hb:Below w.heap.size w X)=>nY E ve X (he.below hb) hel;unfold Ea at hnum;have hdt:=fun X f h=>vL E X f h;have hnt:=fun X f h1 h2=>uS E X f h1 h2;have hmk:=fun X (hb:Below w.heap.size w X)=>lF ⟨m.toArray⟩ v l X (by show m.toArray.size≤maxLen;rw[List.size_toArray];unfold maxLen;omega) (hr.below hb) om;rw[hup] at hmk;have hcd:=fun X k f t b base v'=>sU (dT E) k f t b base m v' l X;rw[hd] at hcd;have hcn:=fun X k f t b base v'=>sU (nT E) k f t b base m1 v' l1 X;rw[hn] at hcn;have hsame:=fun X v' (hb:Below w.heap.size w X) h=>uM m2 E.mn v' ve l2 E.args X h (he.below hb) om om;rw[hres] at hsame;rw[hlen] at hdt hnt;rw[hl1] at hcn;rw[hl2] at hsame;dsimp only at hcd hcn;generalize dK [5] E.args=kd at *;generalize (decide ((100:UInt8)∈E.extra) && decide (0≤kd))=td at *;generalize (cW E.extra E.args)=ns at *;generalize (ns.2.isSome && decide (0≤ns.1))=tn at *;generalize ns.1=kn at *;generalize dT E=DT at *;generalize nT E=NT at *;obtain⟨page,op,mn,args,ex,al⟩:=E;dsimp only at he hel hem hsh hlen hsame;obtain⟨a,c,rfl,_,_⟩:=hr;obtain⟨ae,ce,rfl,_,_⟩:=he;have HS:=Hh hsh;clear hsh hs;have HDIS:=Hh hdis;clear hdis;have HNUM:=Hh hnum;clear hnum;have HDT:=Hh hdt;clear hdt;have HNT:=Hh hnt;clear hnt;have HMK:=Hh hmk;clear hmk;have HCD:=Hh hcd;clear hcd;have HCN:=Hh hcn;clear hcn;have HSAME:=Hh hsame;clear hsame;have HL1:=Hh hl1;have HL2:=Hh hl2;have HLEN:=Hh hlen;clear hl1 hl2 hlen hd hn hres hup;show Calls prog 203 #[.agg #[.int .i64 page,.int .u8 op,.string ⟨mn.toArray⟩,.slice ae args.length ce,.string ⟨ex.toArray⟩,.bool al],.agg #[.string ⟨m.toArray⟩,.slice a l.length c]] w _
 go_enter func203,ntmps203
 go_wp2_with fail
 have hbW:Below w.heap.size w ((w.alloc (.cells #[.int .i64 page,.int .u8 op,.string ⟨mn.toArray⟩,.slice ae args.length ce,.string ⟨ex.toArray⟩,.bool al] 211)).alloc (.cells #[.string ⟨m.toArray⟩,.slice a l.length c] 53)):=(br.alloc lr _).alloc sm _;have h0:((w.alloc (.cells #[.int .i64 page,.int .u8 op,.string ⟨mn.toArray⟩,.slice ae args.length ce,.string ⟨ex.toArray⟩,.bool al] 211)).alloc (.cells #[.string ⟨m.toArray⟩,.slice a l.length c] 53)).heap[w.heap.size]? = some (.cells #[.int .i64 page,.int .u8 op,.string ⟨mn.toArray⟩,.slice ae args.length ce,.string ⟨ex.toArray⟩,.bool al] 211 (0,0)):=aE (aF _ _);have h1:=aF (w.alloc (.cells #[.int .i64 page,.int .u8 op,.string ⟨mn.toArray⟩,.slice ae args.length ce,.string ⟨ex.toArray⟩,.bool al] 211)) (.cells #[.string ⟨m.toArray⟩,.slice a l.length c] 53);rw[World.size_alloc] at h1;refine (HS.out _ hbW).mono ?_;rintro e w1 ⟨rfl,hb1⟩;have h01:=aB h0 hb1 (by simp;omega);have h11:=aB h1 hb1 sm;have hbw1:=hbW.trans (hb1.mono hbW.size);have hl11:=aA h11;obtain⟨r0,r1,_,_⟩:=aL h11;have H01:=Hh h01;have HB1:=Hh hbw1;clear hbW h0 h1 hb1 h01 hbw1;go_wp2_with fail
 refine (HMK.out _ HB1.out).mono ?_;rintro e w2 ⟨v2,rfl,hown2,hb2⟩;obtain⟨a2,c2,rfl⟩:=aI hown2;have h02:=aB H01.out hb2 om;have hbw2:=HB1.out.trans (hb2.mono HB1.out.size);have hs12:=hb2.size;have hne:=Sb hown2;have hrow2:=(WRow.of_owns hown2).mono (b':=w.heap.size+1+1) om;clear r0 r1 h11 H01 HB1 hown2 hb2;have h03:=aE (o':=.cells #[.string ⟨m.toArray⟩,.slice a2 l.length c2] 53) h02;have hr3:=aF w2 (.cells #[.string ⟨m.toArray⟩,.slice a2 l.length c2] 53);have hal:=(Below.refl w2.heap.size w2).alloc lr (.cells #[.string ⟨m.toArray⟩,.slice a2 l.length c2] 53);have hbw3:=hbw2.trans (hal.mono hbw2.size);have hrow3:=hrow2.below hal;have hwb:w.heap.size+1+1≤w2.heap.size:=om
 have hsz3:w2.heap.size<(w2.alloc (.cells #[.string ⟨m.toArray⟩,.slice a2 l.length c2] 53)).heap.size:=by rw[World.size_alloc];omega
 obtain⟨b,hbe⟩:∃ b,w2.heap.size=b:=⟨_,rfl⟩;have HBE:=Hh hbe;have HWB:=Hh hwb;have HNE:=Hh hne;obtain⟨⟨x0,x1,x2,x3,x4,x5⟩,_⟩:=aN h02;have hl2:w.heap.size<b:=om
 have hl2n:¬ w.heap.size=b:=om
 clear h02 hbw2 hne hrow2 hs12 hl11 hwb hal;go_wp2_with fail
 obtain⟨W3,hW3⟩:∃ W3,(w2.alloc (.cells #[.string ⟨m.toArray⟩,.slice a2 l.length c2] 53))=W3:=⟨_,rfl⟩;rw[hW3] at h03 hr3 hbw3 hrow3 hsz3 ⊢;rw[hbe] at hr3 hsz3 HWB HNE;have hww:=HWB.out;clear hW3 hbe x0 x1 x2 x3 x4 x5 hl2 hl2n;have hl0:w.heap.size<W3.heap.size:=om
 have H03:=Hh h03;have HR3:=Hh hr3;have HBW3:=Hh hbw3;have HROW3:=Hh hrow3;clear h03 hr3 hbw3 hrow3;(with_reducible refine (HDIS.out _ HBW3.out).mono ?_);rintro e w4 ⟨f,rfl,hin,hb4⟩;have hin4:=HDT.out w4 f (hin.mono (Nat.zero_le _));have h04:=aB H03.out hb4 hl0;have hr4:=aB HR3.out hb4 hsz3;have hrow4:=HROW3.out.below hb4;have hbw4:=HBW3.out.trans (hb4.mono HBW3.out.size);have hcd4:=HCD.out w4 _ f _ b (w.heap.size+1+1) (.slice a2 l.length c2) hin4 hr4 hrow4 HNE.out hl;have HCD4:=Hh hcd4;have H04:=Hh h04;have HBW4:=Hh hbw4;clear hin hin4 h04 hr4 hrow4 hbw4 hb4 hcd4;go_wp2_with fail
 (with_reducible refine HCD4.out.mono ?_);rintro e w5 ⟨rfl,hr5,hrow5,hb5⟩;have h05:=aB H04.out hb5 (by have:=HWB.out;omega);have hbw5:=HBW4.out.trans (hb5.mono (by have:=HWB.out;omega));obtain⟨⟨x0,x1,x2,x3,x4,x5⟩,_⟩:=aN h05;have hl5:=aA h05;have hlb5:=aA hr5;have H05:=Hh h05;have HR5:=Hh hr5;have HROW5:=Hh hrow5;have HBW5:=Hh hbw5;clear h05 hr5 hrow5 hbw5 hb5;go_wp2_with fail
 (with_reducible refine (HNUM.out _ HBW5.out).mono ?_);rintro e w6 ⟨f2,rfl,hf1,hf2,hb6⟩;have hin6:=HNT.out w6 f2 (fun lo hi q=>(hf1 lo hi q).mono (Nat.zero_le _)) hf2;have h06:=aB H05.out hb6 hl5;have hr6:=aB HR5.out hb6 hlb5;have hrow6:=HROW5.out.below hb6;have hbw6:=HBW5.out.trans (hb6.mono HBW5.out.size);have hcn6:=HCN.out w6 _ f2 _ b (w.heap.size+1+1) (.slice a2 l.length c2) hin6 hr6 hrow6 HNE.out hl;have HCN6:=Hh hcn6;have H06:=Hh h06;have HBW6:=Hh hbw6;clear hf1 hf2 hin6 h06 hr6 hrow6 hbw6 hb6 hcn6 x0 x1 x2 x3 x4 x5;go_wp2_with fail
 (with_reducible refine HCN6.out.mono ?_);rintro e w7 ⟨rfl,hr7,hrow7,hb7⟩;have h07:=aB H06.out hb7 (by have:=HWB.out;omega);have hbw7:=HBW6.out.trans (hb7.mono (by have:=HWB.out;omega));obtain⟨⟨x0,x1,x2,x3,x4,x5⟩,_⟩:=aN h07;obtain⟨y0,y1,_,_⟩:=aL hr7;have HBW7:=Hh hbw7;have hsm7:=HSAME.out w7 _ hbw7 hrow7.row;have HSM7:=Hh hsm7;clear h07 hr7 hrow7 hbw7 hb7 hsm7;go_wp2_with fail
 (with_reducible refine HSM7.out.mono ?_);rintro e w8 ⟨rfl,hb8⟩;have HB8:=Hh (HBW7.out.trans (hb8.mono HBW7.out.size));clear hb8;cases r with
 | false =>
   go_wp2_with fail
   refine bodyPost_ret (v:=wU none) (by simp[results,results203,go_sem,wU]) rfl ⟨rfl,HB8.out⟩
 | true =>
   go_wp2_with fail
   refine bodyPost_ret (v:=wU (some (dn,nn))) (by simp[results,results203,go_sem,wU]) rfl ⟨rfl,HB8.out⟩
theorem Ga (E:Ent) (ve:Value) (m:List UInt8) (v:Value) (l:List Op3) (w:World) (he:Row w ve E.args.length (opc E.args)) (hr:Row w v l.length (opc l)) (hel:E.args.length≤1000) (hem:E.mn.length≤1000) (hl:l.length≤1000) (hm:m.length≤1000) (hup:cH ⟨m.toArray⟩=⟨m.toArray⟩) (hne:m≠[]) :
 Calls prog 203 #[cP E ve,eU m v] w fun e w'=>e=.returned (wU (lR E (m,l)))∧Below w.heap.size w w':=by
 cases hs:cT E (m,l) with
 | false =>
   have:lR E (m,l)=none:=by unfold lR;rw[if_pos hs]
   rw[this];exact Ln E ve m v l w he hr hel hem hl hm hs
 | true =>
   rw[Ig E m l hs hne];obtain⟨d,hd⟩:∃ d,eK (dT E) (m,l)=d:=⟨_,rfl⟩;obtain⟨dn,m1,l1⟩:=d;obtain⟨n,hn⟩:∃ n,eK (nT E) (m1,l1)=n:=⟨_,rfl⟩;obtain⟨nn,m2,l2⟩:=n;rw[hd];dsimp only;rw[hn];dsimp only;have h:=Fz E ve m v l w he hr hel hem hl hm hup hs dn nn m1 m2 l1 l2 hd hn _ rfl;simpa only[decide_eq_true_eq] using h
theorem InF.kbk {w w':World} {b k:Nat} {lo hi:Int} {f:Value} (h:InF w b lo hi f) (hb:Kb k w w') (hk:k<b):InF w' b lo hi f:=by
 obtain⟨b1,b2,hf,h1,h2,h3,h4,c1,c2⟩:=h;exact⟨b1,b2,hf,h1,h2,Nat.lt_of_lt_of_le h3 hb.size,Nat.lt_of_lt_of_le h4 hb.size,(hb.cell (p:=⟨b1,0,none⟩) h3 (by show b1≠k;omega)).trans c1,(hb.cell (p:=⟨b2,0,none⟩) h4 (by show b2≠k;omega)).trans c2⟩
theorem zP (E:Ent) (ve:Value) (d n:Int) (w:World) (he:Row w ve E.args.length (opc E.args)) (hel:E.args.length≤1000) (hem:E.mn.length≤1000) (hup:cH ⟨E.mn.toArray⟩=⟨E.mn.toArray⟩) :
 Calls prog 197 #[cP E ve,.int .i64 d,.int .i64 n] w (oW (bU E d n) w):=by
 have hdis:=fun X (hb:Below w.heap.size w X)=>mS E ve X (he.below hb) hel;have hnum:=fun X (hb:Below w.heap.size w X)=>nY E ve X (he.below hb) hel;unfold Ea at hnum;have hdt:=fun X f h=>vL E X f h;have hnt:=fun X f h1 h2=>uS E X f h1 h2;have hmk:=fun X (hb:Below w.heap.size w X)=>lF ⟨E.mn.toArray⟩ ve E.args X (by show E.mn.toArray.size≤maxLen;rw[List.size_toArray];unfold maxLen;omega) (he.below hb) om;rw[hup] at hmk;have hcd:=fun X B k f t b base v'=>vI B (dT E) k d f t b base E.mn v' E.args X;rw[Vl] at hcd;have hcn:=fun X B k f t b base v'=>vI B (nT E) k n f t b base E.mn v' (oP E d) X;rw[Vk] at hcn;have hdl:(oP E d).length=E.args.length:=by have:=yG (dT E) d E.args;rw[Vl] at this;exact this
 have hnl:(qT E (oP E d) n).length=E.args.length:=by have:=yG (nT E) n (oP E d);rw[Vk] at this;exact this.trans hdl
 have hres:bU E d n=if nOk E n && dOk E d then some (E.mn,qT E (oP E d) n) else none:=rfl
 have hdtB:∀ lo hi,(dT E).map (·.2)=some (lo,hi)→lo=-128∧hi=127:=fun lo hi h=>by
  unfold dT at h;cases hd:fJ E<;>rw[hd] at h<;>simp at h
  exact⟨h.1.symm,h.2.symm⟩
 have hntB:∀ lo hi,(nT E).map (·.2)=some (lo,hi)→(cW E.extra E.args).2=some (lo,hi):=fun lo hi h=>by
  unfold nT at h;cases hd:fM E with
  | none=>rw[hd] at h;cases h
  | some x =>
    obtain⟨k,c⟩:=x;rw[hd] at h;rw[(Es hd).2.1];simp at h
    exact congrArg some (Prod.ext h.1 h.2)
 obtain⟨R,hR⟩:∃ R,bU E d n=R:=⟨_,rfl⟩;rw[hR];rw[hres] at hR;dsimp only at hcd hcn;generalize dK [5] E.args=kd at *;generalize (decide ((100:UInt8)∈E.extra) && decide (0≤kd))=td at *;generalize (cW E.extra E.args)=ns at *;generalize (ns.2.isSome && decide (0≤ns.1))=tn at *;generalize ns.1=kn at *;generalize hl1:oP E d=l1 at *;rw[hdl] at hcn;generalize hl2:qT E l1 n=l2 at *;generalize nOk E n=nb at *;generalize dOk E d=db at *;generalize dT E=DT at *;generalize nT E=NT at *;clear hl1 hl2 hres;obtain⟨page,op,mn,args,ex,al⟩:=E;dsimp only at he hel hem hup hdl hnl hmk hcd hcn hdt hnt hR;have HR:=Hh hR;clear hR;obtain⟨ae,ce,rfl,_,_⟩:=he;have HDIS:=Hh hdis;have HNUM:=Hh hnum;have HDT:=Hh hdt;have HNT:=Hh hnt;have HMK:=Hh hmk;have HCD:=Hh hcd;have HCN:=Hh hcn;have HDL:=Hh hdl;have HNL:=Hh hnl;have HDB:=Hh hdtB;have HNB:=Hh hntB;clear hdis hnum hdt hnt hmk hcd hcn hdl hnl hdtB hntB hup;show Calls prog 197 #[.agg #[.int .i64 page,.int .u8 op,.string ⟨mn.toArray⟩,.slice ae args.length ce,.string ⟨ex.toArray⟩,.bool al],.int .i64 d,.int .i64 n] w _
 go_enter func197,ntmps197
 go_wp2_with fail
 generalize hW0:((w.alloc _).alloc _)=W0;have h0:W0.heap[w.heap.size]? = some (.cells #[.int .i64 page,.int .u8 op,.string ⟨mn.toArray⟩,.slice ae args.length ce,.string ⟨ex.toArray⟩,.bool al] 211 (0,0)):=by rw[←hW0];exact aE (aF _ _)
 have h1:W0.heap[w.heap.size+1]? = some (.cells #[.string ⟨#[]⟩,.slice none 0 0] 53 (0,0)):=by
  rw[←hW0]
  have:=aF (w.alloc (.cells #[.int .i64 page,.int .u8 op,.string ⟨mn.toArray⟩,.slice ae args.length ce,.string ⟨ex.toArray⟩,.bool al] 211)) (.cells #[.string ⟨#[]⟩,.slice none 0 0] 53)
  rwa [World.size_alloc] at this
 have HBW:=Hh (show Below w.heap.size w W0 by rw[←hW0];exact bl);have hsz0:W0.heap.size=w.heap.size+1+1:=by rw[←hW0];simp
 have H0:=Hh h0;have H1:=Hh h1;have HSZ:=Hh hsz0;clear hW0 h0 h1 hsz0;obtain⟨⟨x0,x1,x2,x3,x4,x5⟩,_⟩:=aN H0.out;have hl0:=aA H0.out;go_wp2_with fail
 refine (HMK.out _ HBW.out).mono ?_;rintro e w2 ⟨v2,rfl,hown2,hb2⟩;obtain⟨a2,c2,rfl⟩:=aI hown2;have hlt2:∀ q,(Value.slice a2 args.length c2).ownBlock=some q→W0.heap.size≤q∧q<w2.heap.size:=fun q hq=>hown2.lt q hq;obtain⟨W3,hW3⟩:∃ W3,w2.alloc (.cells #[.string ⟨mn.toArray⟩,.slice a2 args.length c2] 53)=W3:=⟨_,rfl⟩;have hal:Below w2.heap.size w2 W3:=by rw[←hW3];exact bl
 have hr3:W3.heap[w2.heap.size]? = some (.cells #[.string ⟨mn.toArray⟩,.slice a2 args.length c2] 53 (0,0)):=by rw[←hW3];exact aF _ _
 have hrow3:=(show ORow _ _ _ _ _ from hown2).below hal;have h03:=aB (aB H0.out hb2 (aA H0.out)) hal (Nat.lt_of_lt_of_le (aA H0.out) hb2.size);have h13:=aB (aB H1.out hb2 (aA H1.out)) hal (Nat.lt_of_lt_of_le (aA H1.out) hb2.size);have hbw3:=(HBW.out.trans (hb2.mono HBW.out.size)).trans (hal.mono (Nat.le_trans HBW.out.size hb2.size));have hsb:W0.heap.size≤w2.heap.size:=hb2.size;obtain⟨b,hbe⟩:∃ b,w2.heap.size=b:=⟨_,rfl⟩;clear hb2 hal hown2 x0 x1 x2 x3 x4 x5;rw[hbe] at hr3 hlt2 hsb;have hne:(Value.slice a2 args.length c2).ownBlock≠some b:=fun e=>by have:=(hlt2 b e).2;omega
 have hlb:=aA hr3;have hl3:=aA h03;obtain⟨⟨x0,x1,x2,x3,x4,x5⟩,_⟩:=aN h03;have H03:=Hh h03;have H13:=Hh h13;have HR3:=Hh hr3;have HROW3:=Hh hrow3;have HBW3:=Hh hbw3;have HLT2:=Hh hlt2;have HNE:=Hh hne;have HSB:=Hh hsb;clear h03 h13 hr3 hrow3 hbw3 hlt2 hne hsb;go_wp2_with fail
 clear hW3 hbe;(with_reducible refine (HDIS.out _ HBW3.out).mono ?_);rintro e w4 ⟨f,rfl,hin,hb4⟩;have hin':=hin;obtain⟨bb1,bb2,rfl,_⟩:=hin';obtain⟨W5,hW5⟩:∃ W5,w4.alloc (.cells #[.int .i64 kd,(.func (.func 287) #[] #[.pointer (some ⟨bb1,0,none⟩),.pointer (some ⟨bb2,0,none⟩)])] 291)=W5:=⟨_,rfl⟩;have hal:Below w4.heap.size w4 W5:=by rw[←hW5];exact bl
 have hb5:Below W3.heap.size W3 W5:=hb4.trans (hal.mono hb4.size);have hv5:W5.heap[w4.heap.size]? = some (.cells #[.int .i64 kd,(.func (.func 287) #[] #[.pointer (some ⟨bb1,0,none⟩),.pointer (some ⟨bb2,0,none⟩)])] 291 (0,0)):=by rw[←hW5];exact aF _ _
 have hin5:=hin.below hal;have hcd5:=HCD.out W5 W3.heap.size _ _ td b W0.heap.size (.slice a2 args.length c2) (HDT.out W5 _ (hin5.mono (Nat.zero_le _))) (fun lo hi h=>by obtain⟨rfl,rfl⟩:=HDB.out lo hi h;exact hin5) (fun q hq=>by have:=(HLT2.out q hq).2;omega) (aB HR3.out hb5 hlb) (HROW3.out.below hb5) HNE.out hel
 have HCD5:=Hh hcd5;have H05:=Hh (aB H03.out hb5 hl3);have H15:=Hh (aB H13.out hb5 (aA H13.out));have HV5:=Hh hv5;have HB5:=Hh (HBW3.out.trans (hb5.mono HBW3.out.size));have hs45:W3.heap.size≤w4.heap.size:=hb4.size;clear hin hin5 hcd5 hv5 hb5 hal hb4 x0 x1 x2 x3 x4 x5;obtain⟨y0,y1,_,_⟩:=aL HV5.out;have hlv:=aA HV5.out;go_wp2_with fail
 clear hW5 y0 y1;(with_reducible refine HCD5.out.mono ?_);rintro e w6 ⟨rfl,hr6,hrow6,hg6⟩;have hown:∀ q,some q=(Value.slice a2 args.length c2).ownBlock→w.heap.size+1+1≤q∧q<W3.heap.size:=fun q hq=>by
  have h1:=HLT2.out q hq.symm;have h2:=HSZ.out;omega
 have HOWN:=Hh hown;have h06:=iC hg6 H05.out (fun e=>by have:=hown _ e;omega);have h16:=iC hg6 H15.out (fun e=>by have:=hown _ e;omega);have hv6:=iC hg6 HV5.out (fun e=>by have:=hown _ e;omega);have HB6:=Hh (HB5.out.grown hg6 HB5.out.size (fun q hq=>by have:=hown q hq.symm;omega));have hs56:=hg6.size;obtain⟨⟨x0,x1,x2,x3,x4,x5⟩,_⟩:=aN h06;have hl6:=aA h06;have H06:=Hh h06;have H16:=Hh h16;have HV6:=Hh hv6;have HR6:=Hh hr6;have HROW6:=Hh hrow6;clear h06 h16 hv6 hr6 hrow6 hg6 hown;go_wp2_with fail
 (with_reducible refine (HNUM.out _ HB6.out).mono ?_);rintro e w7 ⟨f2,rfl,hf1,hf2,hb7⟩;have hff:f2=.nilFunc∨∃ b1 b2,f2=.func (.func 287) #[] #[.pointer (some ⟨b1,0,none⟩),.pointer (some ⟨b2,0,none⟩)]:=by
  rcases hn2:ns.2 with _|⟨lo,hi⟩
  · exact .inl (hf2 hn2)
  · obtain⟨b1,b2,rfl,_⟩:=hf1 lo hi hn2;exact .inr ⟨b1,b2,rfl⟩
 have hv7:=aB HV6.out hb7 (aA HV6.out);obtain⟨y0,y1,s0,s1⟩:=aL hv7;have hlv7:=aA hv7;have hsw:w4.heap.size<w6.heap.size:=aA HV6.out;have HF1:=Hh hf1;have HF2:=Hh hf2;have HB7:=Hh hb7;have HV7:=Hh hv7;clear hf1 hf2 hb7 hv7 x0 x1 x2 x3 x4 x5;have hB78:=HB7.out;rcases hff with rfl|⟨b1,b2,rfl⟩;all_goals
  go_wp2_with fail
  generalize hW8:((w7.setCell _ _).setCell _ _)=W8;have hk8:Kb w4.heap.size w7 W8:=by rw[←hW8];exact Kb.setCell (Kb.setCell (Kb.refl _ _) 0 _) 1 _
  have hs67:=hB78.size;have hob:∀ q,some q=(Value.slice a2 args.length c2).ownBlock→q<w4.heap.size:=fun q hq=>by have:=(HOWN.out q hq).2;omega
  have h17:=aB H16.out hB78 (aA H16.out);have hr7:=aB HR6.out hB78 (aA HR6.out);have h18:=(hk8.block _ (aA h17) (by have:=aA H1.out;omega)).trans h17;have hr8:=(hk8.block _ (aA hr7) om).trans hr7;have hrow8:=(HROW6.out.below hB78).kbo hk8 (fun e=>by have:=hob _ e.symm;omega);have hb8:Below w.heap.size w W8:=bS (HB6.out.trans (hB78.mono HB6.out.size)) (Nat.le_trans HB6.out.size hs67) hk8 (by have:=aA H0.out;omega);have hcn8:=HCN.out W8 w6.heap.size kn _ tn b W0.heap.size (.slice a2 args.length c2) (HNT.out W8 _ (fun lo hi q=>((HF1.out lo hi q).kbk hk8 hsw).mono (Nat.zero_le _)) (fun h=>by first|rfl|exact HF2.out h|exact absurd h HF2.out)) (fun lo hi h=>(HF1.out lo hi (HNB.out lo hi h)).kbk hk8 hsw) (fun q hq=>by have:=hob q hq.symm;omega) hr8 hrow8 HNE.out hel;have HCN8:=Hh hcn8;have H18:=Hh h18;have HB8:=Hh hb8;have hs78:=hk8.size;clear hW8 hk8 h17 hr7 h18 hr8 hrow8 hb8 hcn8 y0 y1 s0 s1;(with_reducible refine HCN8.out.mono ?_);rintro e w9 ⟨rfl,hr9,hrow9,hg9⟩;have h19:=iC hg9 H18.out (fun e=>by have:=HOWN.out _ e;omega);have HB9:=Hh (HB8.out.grown hg9 HB8.out.size (fun q hq=>by have:=HOWN.out q hq.symm;omega));obtain⟨r0,r1,z0,z1⟩:=aL h19;obtain⟨q0,q1,_,_⟩:=aL hr9;have hl9:=aA h19;have hl9b:=aA hr9;have HROW9:=Hh hrow9;have hlo:=aA H1.out;clear h19 hr9 hrow9 hg9 hob hs67 hs78;cases nb<;>cases db
  case true.true =>
   obtain rfl:R=some (mn,l2):=by rw[←HR.out];rfl
   go_wp2_with fail
   refine bodyPost_ret (v:=iO (some (mn,l2)) (.slice a2 args.length c2)) (by simp[results,results197,go_sem,iO,r0,r1]) rfl ⟨_,rfl,fun i hi=>?_,?_⟩
   · cases hi
     have h1:=HROW9.out;have h2:=(h1.kbo (Kb.setCell (Kb.setCell (Kb.refl (w.heap.size+1) w9) 0 (.string ⟨mn.toArray⟩)) 1 (.slice a2 args.length c2)) (fun e=>by have:=HOWN.out _ e.symm;omega)).mono (b':=w.heap.size) (by have:=HSZ.out;omega);show ORow _ _ _ l2.length _
     rw[HNL.out];exact h2
   · exact (HB9.out.setCell (p:=⟨w.heap.size+1,0,none⟩) (by show w.heap.size≤w.heap.size+1;omega) _).setCell (p:=⟨w.heap.size+1,1,none⟩) (by show w.heap.size≤w.heap.size+1;omega) _
  all_goals
   obtain rfl:R=none:=by rw[←HR.out];rfl
   go_wp2_with fail
   refine bodyPost_ret (v:=iO none (.slice none 0 0)) (by simp[results,results197,go_sem,iO,r0,r1]) rfl ⟨_,rfl,fun i hi=>(by cases hi),?_⟩;exact (HB9.out.setCell (p:=⟨w.heap.size+1,0,none⟩) (by show w.heap.size≤w.heap.size+1;omega) _).setCell (p:=⟨w.heap.size+1,1,none⟩) (by show w.heap.size≤w.heap.size+1;omega) _
end Go.Proofs.YtoigglljnklhlaaGreatDoor
