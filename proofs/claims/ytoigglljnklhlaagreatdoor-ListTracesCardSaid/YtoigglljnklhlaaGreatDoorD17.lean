/- Joined. -/
import Derived.Test.YtoigglljnklhlaaGreatDoorD15
set_option maxHeartbeats 8000000
set_option maxRecDepth 100000
namespace Go.Proofs.YtoigglljnklhlaaGreatDoor
section
open Go.RowKit Go.Sort
def opsT:List UInt8:=[65,68,67,32,65,68,68,32,65,78,68,32,66,73,84,32,67,65,76,76,32,67,67,70,32,67,80,32,67,80,68,32,67,80,68,82,32,67,80,73,32,67,80,73,82,32,67,80,76,32,68,65,65,32,68,69,67,32,68,73,32,68,74,78,90,32,69,73,32,69,88,32,69,88,88,32,72,65,76,84,32,73,77,32,73,78,32,73,78,67,32,73,78,68,32,73,78,68,82,32,73,78,73,32,73,78,73,82,32,74,80,32,74,82,32,76,68,32,76,68,68,32,76,68,68,82,32,76,68,73,32,76,68,73,82,32,78,69,71,32,78,79,80,32,79,82,32,79,84,68,82,32,79,84,73,82,32,79,85,84,32,79,85,84,68,32,79,85,84,73,32,80,79,80,32,80,85,83,72,32,82,69,83,32,82,69,84,32,82,69,84,73,32,82,69,84,78,32,82,76,32,82,76,65,32,82,76,67,32,82,76,67,65,32,82,76,68,32,82,82,32,82,82,65,32,82,82,67,32,82,82,67,65,32,82,82,68,32,82,83,84,32,83,66,67,32,83,67,70,32,83,69,84,32,83,76,65,32,83,76,76,32,83,82,65,32,83,82,76,32,83,85,66,32,88,79,82]
def opsL:List (List UInt8):=[
 [65,68,67],[65,68,68],[65,78,68],[66,73,84],[67,65,76,76],[67,67,70],[67,80],[67,80,68],
 [67,80,68,82],[67,80,73],[67,80,73,82],[67,80,76],[68,65,65],[68,69,67],[68,73],[68,74,78,90],
 [69,73],[69,88],[69,88,88],[72,65,76,84],[73,77],[73,78],[73,78,67],[73,78,68],
 [73,78,68,82],[73,78,73],[73,78,73,82],[74,80],[74,82],[76,68],[76,68,68],[76,68,68,82],
 [76,68,73],[76,68,73,82],[78,69,71],[78,79,80],[79,82],[79,84,68,82],[79,84,73,82],[79,85,84],
 [79,85,84,68],[79,85,84,73],[80,79,80],[80,85,83,72],[82,69,83],[82,69,84],[82,69,84,73],[82,69,84,78],
 [82,76],[82,76,65],[82,76,67],[82,76,67,65],[82,76,68],[82,82],[82,82,65],[82,82,67],
 [82,82,67,65],[82,82,68],[82,83,84],[83,66,67],[83,67,70],[83,69,84],[83,76,65],[83,76,76],
 [83,82,65],[83,82,76],[83,85,66],[88,79,82]]
theorem yJ:Lib.fields opsT=opsL:=by decide +kernel
theorem Mx:opsL.length=68:=by decide +kernel
def iR (i:aY):Int:=if i.1∉opsL then 12 else if 3<i.2.length then 11 else if i.2.any (fun o=>!bP o.1 o.2.1 o.2.2) then 2 else 0
def gO (i:aY):Option Ent × Int:=if iR i=0 then Dc (bV i) else (none,iR i)
def aHx (i:aY):Option Ent × Int:=if iR i=0 then aIb (bV i) else (none,iR i)
theorem To {m:List UInt8} {l:List Op3} {o:Op3} (h:o∈exP m l):o∈l:=by
 unfold exP at h;split at h
 · rename_i hc;rw[hc.2];simp only[Xg,Xp,or_false] at h ⊢;exact h.symm
 · exact h
theorem aOY {i:aY} {o:Op3} (h:o∈fU i):o=(1,7,0)∨o∈i.2:=by
 unfold fU at h;split at h
 · exact .inr (List.mem_of_mem_tail h)
 · split at h
   · rcases Xg.1 h with h|h
     · exact .inl h
     · exact .inr h
   · exact .inr h
theorem Dv {i:aY} {o:Op3} (h:o∈(bV i).2):o=(1,7,0)∨∃ x∈i.2,o.1=x.1∧o.2.1=x.2.1:=by
 unfold bV at h;obtain⟨x,hx,rfl⟩:=Yo.1 h;rcases aOY (To hx) with rfl|hx
 · left;rfl
 · right
   refine⟨x,hx,?_⟩;unfold sC;split<;>exact⟨rfl,rfl⟩
theorem aKc (r n:Int) (h:bP 2 r n=true):0≤r∧r≤3:=by
 unfold bP at h;simp only[Qe,Qf] at h;obtain⟨⟨⟨⟨⟨⟨_,_⟩,h1⟩,h2⟩,h3⟩,_⟩,_⟩:=h;refine⟨h1,?_⟩;obtain⟨k,rfl⟩:∃ k:Nat,r=k:=⟨r.toNat,om⟩
 have hk:k=0∨k=1∨k=2∨k=3∨k=4∨k=5∨k=6∨k=7∨k=8:=om
 rcases hk with rfl|rfl|rfl|rfl|rfl|rfl|rfl|rfl|rfl<;>first|omega|(revert h3;decide +kernel)
theorem aJw (i:aY):gO i=aHx i:=by
 unfold gO aHx;split
 · rename_i hc;apply aIU
   intro o ho h2;rcases Dv ho with rfl|⟨x,hx,h1,h3⟩
   · exact absurd h2 dc
   · rw[h3];have hv:bP x.1 x.2.1 x.2.2=true:=by
      unfold iR at hc;split at hc
      · cases hc
      · split at hc
        · cases hc
        · split at hc
          · cases hc
          · rename_i hn;rw[Xx] at hn;cases hb:bP x.1 x.2.1 x.2.2 with
            | true=>rfl
            | false=>exact absurd ⟨x,hx,by rw[hb];rfl⟩ hn
     rw[←h1,h2] at hv;exact aKc _ _ hv
 · rfl
def eK (t:Option (Nat × Int × Int)) (s:List UInt8 × List Op3):Int × List UInt8 × List Op3 :=
 match t with
 | none=>(0,s)
 | some (k,lo,hi)=>if (decide (lo≤cX s.2 k) && decide (cX s.2 k≤hi))=true then (cX s.2 k,s.1,jJ s.2 k) else (cX s.2 k,[],s.2)
def dT (e:Ent):Option (Nat × Int × Int):=(fJ e).map fun k=>(k,-128,127)
def nT (e:Ent):Option (Nat × Int × Int):=(fM e).map fun x=>(x.1,(cO x.2).1,(cO x.2).2)
theorem kI (s:List UInt8 × List Op3):eK none s=(0,s):=rfl
theorem gY (k:Nat) (lo hi:Int) (m:List UInt8) (l:List Op3):eK (some (k,lo,hi)) (m,l)=if (decide (lo≤cX l k) && decide (cX l k≤hi))=true then (cX l k,m,jJ l k) else (cX l k,[],l):=rfl
theorem xN (t:Option (Nat × Int × Int)) (s:List UInt8 × List Op3):(eK t s).2.2.length=s.2.length:=by
 unfold eK;cases t with
 | none=>rfl
 | some x =>
   obtain⟨k,lo,hi⟩:=x;dsimp only;split
   · exact Jl _ _
   · rfl
theorem aPd:(cO 100).1=-128∧(cO 100).2=127:=by unfold cO;simp
theorem Ig (e:Ent) (m:List UInt8) (l:List Op3) (hs:cT e (m,l)=true) (hm:m≠[]) :
 lR e (m,l)=if (eK (nT e) (eK (dT e) (m,l)).2).2.1=e.mn∧(eK (nT e) (eK (dT e) (m,l)).2).2.2=e.args then some ((eK (dT e) (m,l)).1,(eK (nT e) (eK (dT e) (m,l)).2).1) else none:=by
 have hmn:e.mn=m:=by
  unfold cT at hs;simp only[Qe,Qf] at hs;exact hs.1
 have hne:([]:List UInt8)≠m:=fun q=>hm q.symm;unfold lR;rw[if_neg (by rw[hs];decide)];unfold We Vp dT nT;have hw:∀ c n,bM c n=(decide ((cO c).1≤n) && decide (n≤(cO c).2)):=tM;have hb:=aPd;rw[hmn];cases hd:fJ e with
 | none =>
   cases hn:fM e with
   | none=>simp[kI]
   | some x =>
     obtain⟨k,c⟩:=x;simp only[kI,gY,Option.map_none,Yx,hw,Yp];obtain⟨B,hB⟩:∃ B,(decide ((cO c).1≤cX l k) && decide (cX l k≤(cO c).2))=B:=⟨_,rfl⟩;simp only[hB];cases B<;>simp[hne]
 | some d =>
   simp only[gY,Yx,hw,hb.1,hb.2];obtain⟨A,hA⟩:∃ A,(decide ((-128:Int)≤cX l d) && decide (cX l d≤127))=A:=⟨_,rfl⟩;simp only[hA];cases hn:fM e with
   | none=>cases A<;>simp[kI,hne]
   | some x =>
     obtain⟨k,c⟩:=x;simp only[Yx];cases A with
     | true =>
       simp only[if_true,Yp,gY];obtain⟨B,hB⟩:∃ B,(decide ((cO c).1≤cX (jJ l d) k) && decide (cX (jJ l d) k≤(cO c).2))=B:=⟨_,rfl⟩;simp only[hB];cases B<;>simp[hne]
     | false =>
       simp only[Bool.false_eq_true,if_false,Zp,gY];obtain⟨B,hB⟩:∃ B,(decide ((cO c).1≤cX l k) && decide (cX l k≤(cO c).2))=B:=⟨_,rfl⟩;simp only[hB];cases B<;>simp[hne]
theorem Gr:opsL.all (fun m=>decide ((cH ⟨m.toArray⟩).data.toList=m) && decide (m≠[]) && decide (m.length≤4))=true:=by decide +kernel
theorem aPH {m:List UInt8} (h:m∈opsL):cH ⟨m.toArray⟩=⟨m.toArray⟩∧m≠[]∧m.length≤4:=by
 have:=Xk.1 Gr m h
 simp only[Qe,Qf] at this;refine⟨?_,this.1.2,this.2⟩;apply ByteArray.ext
 apply Array.toList_inj.1
 rw[this.1.1]
theorem yT {p op:Nat} {mn:List UInt8} {e:Ent} (hp:p<7) (ho:op<256) (h:dQ p mn op=some e):e.mn=mn∧e.args.length≤3:=by
 unfold dQ at h;split at h
 · cases h
 · split at h
   · cases h
   · rename_i r hr;split at h
     · rename_i hm;have hok:=Dd hp ho h;obtain⟨r2,h1,h2,_,_⟩:=De hok;rw[hr] at h1;cases h1
       exact⟨h2.symm.trans hm,(zS hok).2.1⟩
     · cases h
theorem Ce {mn:List UInt8} {ps:List Nat} {e:Ent} (hp:∀ p∈ps,p<7) (h:e∈dP mn ps):e.mn=mn∧e.args.length≤3:=by
 unfold dP at h;obtain⟨p,hpm,h⟩:=Zq.1 h;obtain⟨op,ho,h⟩:=List.mem_filterMap.1 h;exact yT (hp p hpm) (Yn.1 ho) h
theorem uQ:∀ l:List Op3,(∀ o∈l,∃ n,bP o.1 o.2.1 n=true)→bW l=sD l
 | [],_=>rfl
 | o::l,h=>by
   have ih:=uQ l fun x hx=>h x (Qv _ hx);obtain⟨n,hn⟩:=h o Qq;have ho:=Tc hn;unfold bW sD;rw[ho,ih]
theorem qK {i:aY} (h:iR i=0):i.1∈opsL∧i.2.length≤3∧∀ o∈i.2,bP o.1 o.2.1 o.2.2=true:=by
 unfold iR at h;split at h
 · cases h
 · rename_i h1;split at h
   · cases h
   · rename_i h2;split at h
     · cases h
     · rename_i h3;refine⟨Decidable.not_not.1 h1,om,fun o ho=>?_⟩
       rw[Xx] at h3;cases hb:bP o.1 o.2.1 o.2.2 with
       | true=>rfl
       | false=>exact absurd ⟨o,ho,by rw[hb];rfl⟩ h3
theorem Ut:bP 1 7 0=true:=by decide +kernel
theorem Ab {i:aY} (h:iR i=0):bW (bV i).2=sD (bV i).2:=by
 obtain⟨_,_,hv⟩:=qK h;apply uQ
 intro o ho;rcases Dv ho with rfl|⟨x,hx,h1,h2⟩
 · exact⟨0,Ut⟩
 · exact⟨x.2.2,by rw[h1,h2];exact hv x hx⟩
theorem Fc (m:List UInt8) (l:List Op3):(exP m l).length=l.length:=by
 unfold exP;split
 · rename_i h;rw[h.2];rfl
 · rfl
theorem Ak (i:aY):(fU i).length≤i.2.length+1:=by
 unfold fU;split
 · rw[List.length_tail];omega
 · split
   · simp
   · omega
theorem kM (i:aY):(bV i).2.length≤i.2.length+1:=by
 unfold bV;dsimp only;rw[Qs,Fc];exact Ak i
theorem uL {f:Ent→Bool} {c:aY} {e:Ent} (h:(e.alias || !cT e c)=true) (l:List Ent) (code:Int):kQ f c (e::l) code=kQ f c l code:=by
 show (if _ then _ else _)=_
 rw[if_pos h]
theorem Lu {f:Ent→Bool} {c:aY} {e:Ent} (h:(e.alias || !cT e c)=false) (hf:f e=true) (l:List Ent) (code:Int):kQ f c (e::l) code=(some e,0):=by
 show (if _ then _ else if _ then _ else _)=_
 rw[if_neg (by rw[h];decide),if_pos hf]
theorem Gd {f:Ent→Bool} {c:aY} {e:Ent} (h:(e.alias || !cT e c)=false) (hf:f e=false) (l:List Ent) (code:Int):kQ f c (e::l) code=kQ f c l 2:=by
 show (if _ then _ else if _ then _ else _)=_
 rw[if_neg (by rw[h];decide),if_neg (by rw[hf];decide)]
end
section
open Go.RowKit Go.Sort
open Go.Proofs.Tryz
def Fl (t:Option (Nat × Int × Int)) (w:World) (k:Int) (f:Value) (there:Bool) (n:Nat):Prop :=
 match t with
 | none=>there=false∧(f=.nilFunc∨∃ fn b1 b2,f=.func (.func fn) #[] #[.pointer (some ⟨b1,0,none⟩),.pointer (some ⟨b2,0,none⟩)])
 | some (k',lo,hi)=>there=true∧k=k'∧InF w 0 lo hi f∧k'<n
theorem sU (t:Option (Nat × Int × Int)) (k:Int) (f:Value) (there:Bool) (b base:Nat) (m:List UInt8) (v:Value) (l:List Op3) (w:World) (ht:Fl t w k f there l.length) (hb:w.heap[b]? = some (.cells #[m,v] 53 (0,0))) (hr:WRow w base v l.length (opc l)) (hbb:v.ownBlock≠some b) (hl:l.length≤1000) :
 Calls prog 243 #[.agg #[k,f],.bool there,.pointer b] w fun e w'=>e=.returned (.int .i64 (eK t (m,l)).1)∧w'.heap[b]? = some (.cells #[.string ⟨(eK t (m,l)).2.1.toArray⟩,v] 53 (0,0))∧WRow w' base v l.length (opc (eK t (m,l)).2.2)∧Below (min b base) w w':=by
 cases t with
 | none =>
   obtain⟨rfl,hf⟩:=ht;refine (Oy _ f k b w rfl (hf.imp id fun⟨_,_,_,e⟩=>⟨_,_,_,e⟩)).mono ?_;rintro e w' ⟨rfl,hbel⟩;exact⟨rfl,aB hb hbel (aA hb),hr.below hbel,hbel.mono (by have:=aA hb;omega)⟩
 | some x =>
   obtain⟨k',lo,hi⟩:=x;obtain⟨rfl,rfl,hin,hk⟩:=ht;obtain⟨o,ho⟩:∃ o,l[k']? = some o:=⟨_,Qb hk⟩;have hn:cX l k'=o.2.2:=by unfold cX;simp[List.getD,ho]
   have hz:jJ l k'=l.set k' (o.1,o.2.1,0):=by unfold jJ;rw[ho]
   cases hc:(decide (lo≤o.2.2) && decide (o.2.2≤hi)) with
   | true =>
     have hT:eK (some (k',lo,hi)) (m,l)=(o.2.2,m,l.set k' (o.1,o.2.1,0)):=by unfold eK;dsimp only;rw[hn,hc,hz];rfl
     rw[hT];exact Oz lo hi f k' b base m v l o w hin hb hr hbb hl ho hc
   | false =>
     have hT:eK (some (k',lo,hi)) (m,l)=(o.2.2,[],l):=by unfold eK;dsimp only;rw[hn,hc];rfl
     rw[hT];exact Ii lo hi f k' b base m v l o w hin hb hr hbb hl ho hc
theorem vL (e:Ent) (w:World) (f:Value) (h:InF w 0 (-128) 127 f):Fl (dT e) w (dK [5] e.args) f (decide (100∈e.extra) && decide (0≤dK [5] e.args)) e.args.length:=by
 rw[Tw];unfold dT;cases hd:fJ e with
 | none =>
   obtain⟨b1,b2,rfl,_⟩:=h;exact⟨rfl,.inr ⟨_,_,_,rfl⟩⟩
 | some k =>
   obtain⟨h1,h2⟩:=Tx hd;exact⟨rfl,h1,h,h2⟩
theorem uS (e:Ent) (w:World) (f:Value) (h1:∀ lo hi,(cW e.extra e.args).2=some (lo,hi)→InF w 0 lo hi f) (h2:(cW e.extra e.args).2=none→f=.nilFunc):Fl (nT e) w (cW e.extra e.args).1 f ((cW e.extra e.args).2.isSome && decide (0≤(cW e.extra e.args).1)) e.args.length:=by
 rw[Sf];unfold nT;cases hd:fM e with
 | none =>
   refine⟨rfl,?_⟩;cases hs:(cW e.extra e.args).2 with
   | none=>exact .inl (h2 hs)
   | some x =>
     obtain⟨b1,b2,rfl,_⟩:=h1 x.1 x.2 hs;exact .inr ⟨_,_,_,rfl⟩
 | some x =>
   obtain⟨k,c⟩:=x;obtain⟨h3,h4,h5⟩:=Es hd;exact⟨rfl,h3,h1 _ _ h4,h5⟩
def wU (o:Option (Int × Int)):Value:=match o with|some (d,n)=>.tuple #[.int .i64 d,.int .i64 n,.bool true]|none=>.tuple #[.int .i64 0,.int .i64 0,.bool false]
theorem InF.mono {w:World} {b b':Nat} {lo hi:Int} {f:Value} (h:InF w b lo hi f) (hb:b'≤b):InF w b' lo hi f:=by
 obtain⟨b1,b2,h1,h2,h3,h4⟩:=h;exact⟨b1,b2,h1,om,om,h4⟩
theorem Bd {E:Ent} {m:List UInt8} {l:List Op3} (h:cT E (m,l)=true):E.args.length=l.length∧E.mn=m:=by
 unfold cT at h;simp only[Qe,Qf] at h;exact⟨Fy h.2,h.1⟩
theorem Sb {w:World} {base n size:Nat} {e:TypeId} {v:Value} {xs:List Value} (h:w.ownsRow base e size v n xs):v.ownBlock≠some w.heap.size:=fun e=>by
 have:=(h.lt _ e).2
 omega
theorem Ln (E:Ent) (ve:Value) (m:List UInt8) (v:Value) (l:List Op3) (w:World) (he:Row w ve E.args.length (opc E.args)) (hr:Row w v l.length (opc l)) (hel:E.args.length≤1000) (hem:E.mn.length≤1000) (hl:l.length≤1000) (hm:m.length≤1000) (hs:cT E (m,l)=false) :
 Calls prog 203 #[cP E ve,eU m v] w fun e w'=>e=.returned (wU none)∧Below w w w':=by
 have hsh:=fun X (hb:Below w w X)=>mX E ve m v l X (he.below hb) (hr.below hb) hel hem hl hm;rw[hs] at hsh;obtain⟨page,op,mn,args,ex,al⟩:=E;dsimp only at he hel hem hsh;obtain⟨a,c,rfl,_,_⟩:=hr;obtain⟨ae,ce,rfl,_,_⟩:=he;have HS:=Hh hsh;clear hsh hs;show Calls prog 203 #[.agg #[page,.int .u8 op,mn,.slice ae args.length ce,ex,.bool al],.agg #[m,.slice a l.length c]] w _
 go_enter func203,ntmps203
 go_wp2_with fail
 have hbW:Below w w ((w.alloc (.cells #[page,.int .u8 op,mn,.slice ae args.length ce,ex,.bool al] 211)).alloc (.cells #[m,.slice a l.length c] 53)):=(br.alloc lr _).alloc sm _;refine (HS.out _ hbW).mono ?_;rintro e w1 ⟨rfl,hb1⟩;have HB:=Hh (hbW.trans (hb1.mono hbW.size));clear hbW hb1;go_wp2_with fail
 refine bodyPost_ret (v:=wU none) (by simp[results,results203,go_sem,wU]) rfl ⟨rfl,HB.out⟩
theorem Fz (E:Ent) (ve:Value) (m:List UInt8) (v:Value) (l:List Op3) (w:World) (he:Row w ve E.args.length (opc E.args)) (hr:Row w v l.length (opc l)) (hel:E.args.length≤1000) (hem:E.mn.length≤1000) (hl:l.length≤1000) (hm:m.length≤1000) (hup:cH ⟨m.toArray⟩=⟨m.toArray⟩) (hs:cT E (m,l)=true)
 (dn nn:Int) (m1 m2:List UInt8) (l1 l2:List Op3) (hd:eK (dT E) (m,l)=(dn,m1,l1)) (hn:eK (nT E) (m1,l1)=(nn,m2,l2)) (r:Bool) (hres:decide (m2=E.mn∧l2=E.args)=r) :
 Calls prog 203 #[cP E ve,eU m v] w fun e w'=>e=.returned (wU (if r=true then some (dn,nn) else none))∧Below w w w':=by
 have hsh:=fun X (hb:Below w w X)=>mX E ve m v l X (he.below hb) (hr.below hb) hel hem hl hm;rw[hs] at hsh;have hlen:=(Bd hs).1;have hl1:l1.length=l.length:=by have:=xN (dT E) (m,l);rw[hd] at this;exact this
 have hl2:l2.length=l.length:=by have:=xN (nT E) (m1,l1);rw[hn] at this;exact this.trans hl1
 have hdis:=fun X (hb:Below w w X)=>mS E ve X (he.below hb) hel;have hnum:=fun X (hb:Below w w X)=>nY E ve X (he.below hb) hel;unfold Ea at hnum;have hdt:=fun X f h=>vL E X f h;have hnt:=fun X f h1 h2=>uS E X f h1 h2;have hmk:=fun X (hb:Below w w X)=>lF ⟨m.toArray⟩ v l X (by show m.toArray.size≤maxLen;rw[Qx];unfold maxLen;omega) (hr.below hb) om;rw[hup] at hmk;have hcd:=fun X k f t b base v'=>sU (dT E) k f t b base m v' l X;rw[hd] at hcd;have hcn:=fun X k f t b base v'=>sU (nT E) k f t b base m1 v' l1 X;rw[hn] at hcn;have hsame:=fun X v' (hb:Below w w X) h=>uM m2 E.mn v' ve l2 E.args X h (he.below hb) om om;rw[hres] at hsame;rw[hlen] at hdt hnt;rw[hl1] at hcn;rw[hl2] at hsame;dsimp only at hcd hcn;generalize dK [5] E.args=kd at *;generalize (decide ((100:UInt8)∈E.extra) && decide (0≤kd))=td at *;generalize (cW E.extra E.args)=ns at *;generalize (ns.2.isSome && decide (0≤ns.1))=tn at *;generalize ns.1=kn at *;generalize dT E=DT at *;generalize nT E=NT at *;obtain⟨page,op,mn,args,ex,al⟩:=E;dsimp only at he hel hem hsh hlen hsame;obtain⟨a,c,rfl,_,_⟩:=hr;obtain⟨ae,ce,rfl,_,_⟩:=he;have HS:=Hh hsh;clear hsh hs;have HDIS:=Hh hdis;clear hdis;have HNUM:=Hh hnum;clear hnum;have HDT:=Hh hdt;clear hdt;have HNT:=Hh hnt;clear hnt;have HMK:=Hh hmk;clear hmk;have HCD:=Hh hcd;clear hcd;have HCN:=Hh hcn;clear hcn;have HSAME:=Hh hsame;clear hsame;have HL1:=Hh hl1;have HL2:=Hh hl2;have HLEN:=Hh hlen;clear hl1 hl2 hlen hd hn hres hup;show Calls prog 203 #[.agg #[page,.int .u8 op,mn,.slice ae args.length ce,ex,.bool al],.agg #[m,.slice a l.length c]] w _
 go_enter func203,ntmps203
 go_wp2_with fail
 have hbW:Below w w ((w.alloc (.cells #[page,.int .u8 op,mn,.slice ae args.length ce,ex,.bool al] 211)).alloc (.cells #[m,.slice a l.length c] 53)):=(br.alloc lr _).alloc sm _;have h0:((w.alloc (.cells #[page,.int .u8 op,mn,.slice ae args.length ce,ex,.bool al] 211)).alloc (.cells #[m,.slice a l.length c] 53)).heap[w.heap.size]? = some (.cells #[page,.int .u8 op,mn,.slice ae args.length ce,ex,.bool al] 211 (0,0)):=aE (aF _ _);have h1:=aF (w.alloc (.cells #[page,.int .u8 op,mn,.slice ae args.length ce,ex,.bool al] 211)) (.cells #[m,.slice a l.length c] 53);rw[Qa] at h1;refine (HS.out _ hbW).mono ?_;rintro e w1 ⟨rfl,hb1⟩;have h01:=aB h0 hb1 (by simp;omega);have h11:=aB h1 hb1 sm;have hbw1:=hbW.trans (hb1.mono hbW.size);have hl11:=aA h11;obtain⟨r0,r1,_,_⟩:=aL h11;have H01:=Hh h01;have HB1:=Hh hbw1;clear hbW h0 h1 hb1 h01 hbw1;go_wp2_with fail
 refine (HMK.out _ HB1.out).mono ?_;rintro e w2 ⟨v2,rfl,hown2,hb2⟩;obtain⟨a2,c2,rfl⟩:=aI hown2;have h02:=aB H01.out hb2 om;have hbw2:=HB1.out.trans (hb2.mono HB1.out.size);have hs12:=hb2.size;have hne:=Sb hown2;have hrow2:=(WRow.of_owns hown2).mono (b':=w.heap.size+1+1) om;clear r0 r1 h11 H01 HB1 hown2 hb2;have h03:=aE (o':=.cells #[m,.slice a2 l.length c2] 53) h02;have hr3:=aF w2 (.cells #[m,.slice a2 l.length c2] 53);have hal:=(Below.refl w2 w2).alloc lr (.cells #[m,.slice a2 l.length c2] 53);have hbw3:=hbw2.trans (hal.mono hbw2.size);have hrow3:=hrow2.below hal;have hwb:w.heap.size+1+1≤w2.heap.size:=om
 have hsz3:w2.heap.size<(w2.alloc (.cells #[m,.slice a2 l.length c2] 53)).heap.size:=by rw[Qa];omega
 obtain⟨b,hbe⟩:∃ b,w2.heap.size=b:=⟨_,rfl⟩;have HBE:=Hh hbe;have HWB:=Hh hwb;have HNE:=Hh hne;obtain⟨⟨x0,x1,x2,x3,x4,x5⟩,_⟩:=aN h02;have hl2:w.heap.size<b:=om
 have hl2n:¬ w.heap.size=b:=om
 clear h02 hbw2 hne hrow2 hs12 hl11 hwb hal;go_wp2_with fail
 obtain⟨W3,hW3⟩:∃ W3,(w2.alloc (.cells #[m,.slice a2 l.length c2] 53))=W3:=⟨_,rfl⟩;rw[hW3] at h03 hr3 hbw3 hrow3 hsz3 ⊢;rw[hbe] at hr3 hsz3 HWB HNE;have hww:=HWB.out;clear hW3 hbe x0 x1 x2 x3 x4 x5 hl2 hl2n;have hl0:w.heap.size<W3.heap.size:=om
 have H03:=Hh h03;have HR3:=Hh hr3;have HBW3:=Hh hbw3;have HROW3:=Hh hrow3;clear h03 hr3 hbw3 hrow3;refine (HDIS.out _ HBW3.out).mono ?_;rintro e w4 ⟨f,rfl,hin,hb4⟩;have hin4:=HDT.out w4 f (hin.mono (Qi _));have h04:=aB H03.out hb4 hl0;have hr4:=aB HR3.out hb4 hsz3;have hrow4:=HROW3.out.below hb4;have hbw4:=HBW3.out.trans (hb4.mono HBW3.out.size);have hcd4:=HCD.out w4 _ f _ b (w.heap.size+1+1) (.slice a2 l.length c2) hin4 hr4 hrow4 HNE.out hl;have HCD4:=Hh hcd4;have H04:=Hh h04;have HBW4:=Hh hbw4;clear hin hin4 h04 hr4 hrow4 hbw4 hb4 hcd4;go_wp2_with fail
 refine HCD4.out.mono ?_;rintro e w5 ⟨rfl,hr5,hrow5,hb5⟩;have h05:=aB H04.out hb5 (by have:=HWB.out;omega);have hbw5:=HBW4.out.trans (hb5.mono (by have:=HWB.out;omega));obtain⟨⟨x0,x1,x2,x3,x4,x5⟩,_⟩:=aN h05;have hl5:=aA h05;have hlb5:=aA hr5;have H05:=Hh h05;have HR5:=Hh hr5;have HROW5:=Hh hrow5;have HBW5:=Hh hbw5;clear h05 hr5 hrow5 hbw5 hb5;go_wp2_with fail
 refine (HNUM.out _ HBW5.out).mono ?_;rintro e w6 ⟨f2,rfl,hf1,hf2,hb6⟩;have hin6:=HNT.out w6 f2 (fun lo hi q=>(hf1 lo hi q).mono (Qi _)) hf2;have h06:=aB H05.out hb6 hl5;have hr6:=aB HR5.out hb6 hlb5;have hrow6:=HROW5.out.below hb6;have hbw6:=HBW5.out.trans (hb6.mono HBW5.out.size);have hcn6:=HCN.out w6 _ f2 _ b (w.heap.size+1+1) (.slice a2 l.length c2) hin6 hr6 hrow6 HNE.out hl;have HCN6:=Hh hcn6;have H06:=Hh h06;have HBW6:=Hh hbw6;clear hf1 hf2 hin6 h06 hr6 hrow6 hbw6 hb6 hcn6 x0 x1 x2 x3 x4 x5;go_wp2_with fail
 refine HCN6.out.mono ?_;rintro e w7 ⟨rfl,hr7,hrow7,hb7⟩;have h07:=aB H06.out hb7 (by have:=HWB.out;omega);have hbw7:=HBW6.out.trans (hb7.mono (by have:=HWB.out;omega));obtain⟨⟨x0,x1,x2,x3,x4,x5⟩,_⟩:=aN h07;obtain⟨y0,y1,_,_⟩:=aL hr7;have HBW7:=Hh hbw7;have hsm7:=HSAME.out w7 _ hbw7 hrow7.row;have HSM7:=Hh hsm7;clear h07 hr7 hrow7 hbw7 hb7 hsm7;go_wp2_with fail
 refine HSM7.out.mono ?_;rintro e w8 ⟨rfl,hb8⟩;have HB8:=Hh (HBW7.out.trans (hb8.mono HBW7.out.size));clear hb8;cases r with
 | false =>
   go_wp2_with fail
   refine bodyPost_ret (v:=wU none) (by simp[results,results203,go_sem,wU]) rfl ⟨rfl,HB8.out⟩
 | true =>
   go_wp2_with fail
   refine bodyPost_ret (v:=wU (some (dn,nn))) (by simp[results,results203,go_sem,wU]) rfl ⟨rfl,HB8.out⟩
theorem Ga (E:Ent) (ve:Value) (m:List UInt8) (v:Value) (l:List Op3) (w:World) (he:Row w ve E.args.length (opc E.args)) (hr:Row w v l.length (opc l)) (hel:E.args.length≤1000) (hem:E.mn.length≤1000) (hl:l.length≤1000) (hm:m.length≤1000) (hup:cH ⟨m.toArray⟩=⟨m.toArray⟩) (hne:m≠[]) :
 Calls prog 203 #[cP E ve,eU m v] w fun e w'=>e=.returned (wU (lR E (m,l)))∧Below w w w':=by
 cases hs:cT E (m,l) with
 | false =>
   have:lR E (m,l)=none:=by unfold lR;rw[if_pos hs]
   rw[this];exact Ln E ve m v l w he hr hel hem hl hm hs
 | true =>
   rw[Ig E m l hs hne];obtain⟨d,hd⟩:∃ d,eK (dT E) (m,l)=d:=⟨_,rfl⟩;obtain⟨dn,m1,l1⟩:=d;obtain⟨n,hn⟩:∃ n,eK (nT E) (m1,l1)=n:=⟨_,rfl⟩;obtain⟨nn,m2,l2⟩:=n;rw[hd];dsimp only;rw[hn];dsimp only;have h:=Fz E ve m v l w he hr hel hem hl hm hup hs dn nn m1 m2 l1 l2 hd hn _ rfl;simpa only[Qf] using h
end
end Go.Proofs.YtoigglljnklhlaaGreatDoor
