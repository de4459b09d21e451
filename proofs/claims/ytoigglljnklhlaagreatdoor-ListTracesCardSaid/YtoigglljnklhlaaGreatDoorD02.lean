/- Joined. -/
import Derived.Test.YtoigglljnklhlaaGreatDoorD01
set_option maxHeartbeats 8000000
set_option maxRecDepth 100000
namespace Go.Proofs.YtoigglljnklhlaaGreatDoor
open Go.RowKit Go.Sort
def setN (l:List Op3) (k:Nat) (x:Int):List Op3:=match l[k]? with|some o=>l.set k (o.1,o.2.1,x)|none=>l
def oP (e:Ent) (d:Int):List Op3:=match fJ e with|some k=>setN e.args k d|none=>e.args
def dOk (e:Ent) (d:Int):Bool:=match fJ e with|some _=>bM 100 d|none=>decide (d=0)
def qT (e:Ent) (l:List Op3) (n:Int):List Op3:=match fM e with|some (k,_)=>setN l k n|none=>l
def nOk (e:Ent) (n:Int):Bool:=match fM e with|some (_,c)=>bM c n|none=>decide (n=0)
def bU (e:Ent) (d n:Int):Option aY:=if nOk e n && dOk e d then some (e.mn,qT e (oP e d) n) else none
def qS (e:Ent) (d n:Int) (k:Nat):Int:=if aV e k=100 then d else if aV e k=101∨aV e k=110∨aV e k=119 then n else cX e.args k
def oK (e:Ent) (d n:Int) (k:Nat):Bool:=decide (aV e k=0) || bM (aV e k) (qS e d n k)
def nO (e:Ent) (k:Nat):Bool:=decide (aV e k=100)
def nN (e:Ent) (k:Nat):Bool:=decide (aV e k=101) || decide (aV e k=110) || decide (aV e k=119)
def eO (e:Ent) (d n:Int):List Op3:=e.args.zipIdx.map fun x=>(x.1.1,x.1.2.1,qS e d n x.2)
def lU (e:Ent) (d n:Int):Option aY :=
 if (List.range e.args.length).all (oK e d n) && (decide (d=0) || (List.range e.args.length).any (nO e)) && (decide (n=0) || (List.range e.args.length).any (nN e)) then some (e.mn,eO e d n) else none
theorem fE {e:Ent} {k:Nat} {c:UInt8} (h:fM e=some (k,c)):c=101∨c=110∨c=119:=by
 unfold fM at h;split at h
 · simp at h;obtain⟨_,_,_,rfl⟩:=h;simp
 · split at h
   · simp at h;obtain⟨_,_,_,rfl⟩:=h;simp
   · split at h
     · simp at h;obtain⟨_,_,_,rfl⟩:=h;simp
     · cases h
theorem Lq (l:List Op3) (k:Nat) (x:Int) (i:Nat):(setN l k x)[i]? = (l[i]?).map fun o=>(o.1,o.2.1,if i=k then x else o.2.2):=by
 unfold setN;by_cases hk:k<l.length
 · rw[Qb hk];simp only;by_cases hi:i=k
   · subst hi;rw[List.getElem?_set_self hk,Qb hk];simp
   · rw[List.getElem?_set_ne (Ne.symm hi)];cases l[i]? <;> simp[hi]
 · rw[Zf (Nat.not_lt.1 hk)];by_cases hi:i=k
   · subst hi;rw[Zf (Nat.not_lt.1 hk)];rfl
   · cases l[i]? <;> simp[hi]
theorem xT (l:List Op3) (k:Nat) (x:Int):(setN l k x).length=l.length:=by
 unfold setN;split<;>simp
theorem Pb (e:Ent) (d n:Int):(qT e (oP e d) n).length=e.args.length:=by
 unfold qT oP;split<;>split<;>simp[xT]
structure aBo (e:Ent):Prop where
 lett:∀ k,k<e.args.length→aV e k=kH e k
 dlt:∀ k,fJ e=some k→k<e.args.length
 nlt:∀ k c,fM e=some (k,c)→k<e.args.length∧fJ e≠some k
theorem Wb {p op:Nat} {e:Ent} (hp:p<7) (ho:op<256) (h:(atP p op).1=some e):aBo e:=by
 have hk:=Dd hp ho h;simp only[qH,Qe,Qf,Xk,Yn] at hk;obtain⟨⟨⟨⟨⟨⟨⟨⟨⟨h1,h2⟩,h3⟩,h4⟩,_⟩,_⟩,_⟩,_⟩,_⟩,_⟩:=hk;refine⟨fun k hk=>(h1 k om hk).1,fun k hd=>?_,fun k c hn=>?_⟩
 · rw[hd] at h3;simpa using h3
 · rw[hn] at h4;simpa using h4
theorem Nd {l:List Op3} {k:Nat} {o:Op3} (h:l[k]? = some o):cX l k=o.2.2:=by simp[cX,h]
theorem vH {e:Ent} (hk:aBo e) (d n:Int):bU e d n=lU e d n:=by
 have hl:qT e (oP e d) n=eO e d n:=by
  refine List.ext_getElem? fun i=>?_;have hr:(eO e d n)[i]? = (e.args[i]?).map fun o=>(o.1,o.2.1,qS e d n i):=by
   simp[eO,List.getElem?_zipIdx]
   cases e.args[i]? <;> rfl
  rw[hr];have hq:(qT e (oP e d) n)[i]? = (e.args[i]?).map fun o=>(o.1,o.2.1,if (fM e).map (·.1)=some i then n else if fJ e=some i then d else o.2.2):=by
   unfold qT oP;rcases hn:fM e with _|⟨j,c⟩<;>rcases hd:fJ e with _|q<;>simp only[Lq,Option.map_map]<;>cases e.args[i]? <;> simp[eq_comm]
  rw[hq];rcases hi:e.args[i]? with _|o
  · rfl
  · have hlt:=(Qd.1 hi).1;have hle:=hk.lett i hlt;have hna:=Nd hi;simp only[Yx,Option.some.injEq,Prod.mk.injEq,true_and];unfold qS;rw[hle];unfold kH;rcases hn:fM e with _|⟨j,c⟩
    · by_cases hd:fJ e=some i
      · simp[hd]
      · simp[hd,hna]
    · have hc:=fE hn;obtain⟨hj,hdj⟩:=hk.nlt j c hn;by_cases hji:j=i
      · subst hji;rcases hc with rfl|rfl|rfl<;>simp[hdj]
      · by_cases hd:fJ e=some i
        · simp[hd,hji]
        · simp[hd,hji,hna]
 have hletD:∀ k,fJ e=some k→aV e k=100:=fun k hd=>by rw[hk.lett k (hk.dlt k hd)];simp[kH,hd]
 have hletN:∀ k c,fM e=some (k,c)→aV e k=c:=fun k c hn=>by
  obtain⟨h1,h2⟩:=hk.nlt k c hn;rw[hk.lett k h1];simp[kH,hn,h2]
 have hback:∀ k,k<e.args.length→aV e k≠0→fJ e=some k∨fM e=some (k,aV e k):=fun k hkl hne=>by
  rw[hk.lett k hkl] at hne ⊢;unfold kH at hne ⊢;by_cases hd:fJ e=some k
  · exact .inl hd
  · rw[if_neg hd] at hne ⊢;rcases hn:fM e with _|⟨j,c⟩
    · rw[hn] at hne;simp at hne
    · rw[hn] at hne;by_cases hj:j=k
      · subst hj;simp
      · simp[hj] at hne
 have hD:((List.range e.args.length).any (nO e))=(fJ e).isSome:=by
  rw[Yl,Xx];constructor
  · rintro⟨k,hkl,hu⟩;simp[nO] at hu hkl
    rcases hback k hkl (by rw[hu];decide) with h|h
    · simp[h]
    · have:=fE h;rw[hu] at this;simp at this
  · intro h;obtain⟨k,hd⟩:=Ys.1 h;exact⟨k,by simpa using hk.dlt k hd,by simp[nO,hletD k hd]⟩
 have hN:((List.range e.args.length).any (nN e))=(fM e).isSome:=by
  rw[Yl,Xx];constructor
  · rintro⟨k,hkl,hu⟩;simp[nN] at hu hkl
    rcases hback k hkl (by rcases hu with (hu|hu)|hu<;>rw[hu]<;>decide) with h|h
    · rw[hletD k h] at hu;simp at hu
    · simp[h]
  · intro h;obtain⟨⟨k,c⟩,hn⟩:=Ys.1 h;refine⟨k,by simpa using (hk.nlt k c hn).1,?_⟩
    have:=fE hn
    simp[nN,hletN k c hn]
    rcases this with rfl|rfl|rfl<;>simp
 have hF:((List.range e.args.length).all (oK e d n))=((match fJ e with|some _=>bM 100 d|none=>true) && (match fM e with|some (_,c)=>bM c n|none=>true)):=by
  rw[Yl,Xk];constructor
  · intro h;rw[Qe];constructor
    · rcases hd:fJ e with _|k
      · rfl
      · have h1:=h k (by simpa using hk.dlt k hd);simp[oK,qS,hletD k hd] at h1
        exact h1
    · rcases hn:fM e with _|⟨k,c⟩
      · rfl
      · have h1:=h k (by simpa using (hk.nlt k c hn).1)
        have hc:=fE hn;simp only[oK,qS,hletN k c hn] at h1;rcases hc with rfl|rfl|rfl<;>simpa using h1
  · intro h k hkl;rw[Qe] at h;by_cases h0:aV e k=0
    · simp[oK,h0]
    · rcases hback k (by simpa using hkl) h0 with hd|hn
      · rw[hd] at h;simp[oK,qS,hletD k hd,h.1]
      · have hc:=fE hn;rw[hn] at h;simp only[oK,qS,Zs];refine .inr ?_;rcases hc with hc|hc|hc<;>simp[hc] at h ⊢<;>exact h.2
 unfold bU lU;rw[hl,hD,hN,hF];congr 1
 unfold nOk dOk;rcases hd:fJ e with _|k<;>rcases hn:fM e with _|⟨j,c⟩<;>simp[Bool.and_comm]
structure It where
 kind:Nat
 raw:List UInt8
 ins:aY
 alias:Bool
deriving DecidableEq
def sgn (b:UInt8):Int:=if b.toNat≥128 then (b.toNat:Int) - 256 else b.toNat
def dZ:List UInt8→List UInt8→Int→Int→Option (Int × Int × List UInt8)
 | [],b,d,n=>some (d,n,b)
 | c::cs,b,d,n =>
   if c=100 then (match b with | []=>none|x::b=>dZ cs b (sgn x) n)
   else if c=101 then (match b with | []=>none|x::b=>dZ cs b d (sgn x))
   else if c=110 then (match b with | []=>none|x::b=>dZ cs b d x.toNat)
   else if c=119 then (match b with|x::y::b=>dZ cs b d (x.toNat+y.toNat*256)|_=>none)
   else dZ cs b d n
def bI (o:Option aY):aY:=o.getD ([],[])
def lM (b:List UInt8) (e:Ent) (early:Bool) (rest:List UInt8) (d:Int):Option It :=
 (if early then some (d,0,rest) else dZ e.extra rest 0 0).map fun x=>⟨1,b.take (b.length - x.2.2.length),bI (bU e x.1 x.2.1),e.alias⟩
def cR (page:Nat) (op:UInt8):Nat:=if page=3 then 5 else if page=4 then 6 else if op=0xCB then 1 else if op=0xED then 2 else if op=0xDD then 3 else 4
def fO (page:Nat) (rest:List UInt8):Option (Int × List UInt8):=if 5≤page then (match rest with | []=>none|x::r=>some (sgn x,r)) else some (0,rest)
def dW:Nat→Nat→List UInt8→List UInt8→Option It
 | 0,_,_,_=>none
 | f+1,page,b,rest =>
   match fO page rest with
   | none=>none
   | some (_,[])=>none
   | some (d,op::r) =>
     if (atP page op.toNat).2=2 then dW f (cR page op) b r
     else if (atP page op.toNat).2=0 then some ⟨2,b.take 1,([],[]),false⟩
     else if (atP page op.toNat).2=3 then some ⟨3,b.take (b.length - r.length),([],[]),false⟩
     else lM b ((atP page op.toNat).1.getD ⟨0,0,[],[],[],false⟩) (decide (5≤page)) r d
def bX (b:List UInt8):It:=if b=[] then ⟨0,[],([],[]),false⟩ else (dW 3 0 b b).getD ⟨4,b,([],[]),false⟩
def dE (b:List UInt8):Nat × Nat :=
 let x:=b.getD 0 0
 if x=0xCB then (1,1) else if x=0xED then (2,1)
 else if x=0xDD∨x=0xFD then
  if 1<b.length∧b.getD 1 0=0xCB then ((if x=0xFD then 4 else 3)+2,3) else (if x=0xFD then 4 else 3,1)
 else (0,0)
def fA (page:Nat):Nat:=if page=0 then 0 else if page≤4 then 1 else 2
def kW (e:Ent):Nat:=fA e.page+1+e.extra.length+e.extra.count 119
def eL:List UInt8→List UInt8→Int→Int→Int × Int
 | [],_,d,n=>(d,n)
 | c::cs,b,d,n =>
   if c=100 then eL cs (b.drop 1) (sgn (b.getD 0 0)) n
   else if c=101 then eL cs (b.drop 1) d (sgn (b.getD 0 0))
   else if c=110 then eL cs (b.drop 1) d (b.getD 0 0).toNat
   else if c=119 then eL cs (b.drop 1) d ((b.getD 0 0).toNat+256*(b.getD 1 0).toNat)
   else eL cs (b.drop 1) d n
def nG (b:List UInt8) (p at':Nat) (e:Ent):It :=
 if b.length<kW e then ⟨4,b,([],[]),false⟩
 else
  let x:=eL e.extra (b.drop (if 5≤p then 2 else at'+1)) 0 0
  ⟨1,b.take (kW e),bI (lU e x.1 x.2),e.alias⟩
def wV (b:List UInt8):It :=
 let p:=(dE b).1
 let at':=(dE b).2
 if b.length≤at' then ⟨4,b,([],[]),false⟩
 else
  let x:=atR p (b.getD at' 0).toNat
  if x.2=0 then ⟨2,b.take 1,([],[]),false⟩
  else if x.2=3 then ⟨3,b.take 2,([],[]),false⟩
  else nG b p at' (x.1.getD ⟨0,0,[],[],[],false⟩)
def nH (p op:Nat):Bool :=
 let x:=atP p op
 let ok:=decide (x.2=1) && x.1.isSome
 let no (k:Nat):=decide (x.2=k) && x.1.isNone
 (if p=0 then (if op∈[0xCB,0xED,0xDD,0xFD] then no 2 else ok)
  else if p=2 then ok || no 3
  else if p=3∨p=4 then (if op=0xCB then no 2 else ok || no 0)
  else ok) &&
 (match x.1 with|some e=>if 5≤p then decide (e.extra=[100]) else decide (e.extra∈([[],[101],[110],[119],[100],[100,110]]:List (List UInt8)))|none=>true)
theorem Oa:∀ p:Fin 7,∀ op:Fin 256,nH p.val op.val=true:=by decide +kernel
theorem oC {p:Nat} (op:UInt8) (hp:p<7):nH p op.toNat=true:=Oa ⟨p,hp⟩ ⟨op.toNat,op.toNat_lt⟩
theorem rE {p:Nat} (op:UInt8) (hp:p<7):atR p op.toNat=atP p op.toNat:=(Uj ⟨p,hp⟩ ⟨op.toNat,op.toNat_lt⟩).symm
theorem Pj {p:Nat} {op:UInt8} {e:Ent} (hp:p<7) (h:(atP p op.toNat).1=some e):e.page=p:=by
 have hk:=Dd hp op.toNat_lt h;simp only[qH,Qe,Qf] at hk;exact hk.1.1.1.2
theorem aNy {p:Prop} (h:p:=by
 rcases r with _|⟨x,r⟩
 · simp[dZ];omega
 · simp[dZ,eL]
   rw[if_neg om,show pre.length+(r.length+1+1) - r.length=fA p+1+1 by omega]):p:=h
theorem Ck {p:Nat} {op:UInt8} {e:Ent} (hp:p<5) (h:(atP p op.toNat).1=some e) (pre r:List UInt8) (hpre:pre.length=fA p) (at':Nat) (hat:at'=fA p) :
 (lM (pre++op::r) e false r 0).getD ⟨4,pre++op::r,([],[]),false⟩=nG (pre++op::r) p at' e:=by
 have hk:=oC op (show p<7 by omega);have hpg:=Pj (show p<7 by omega) h;have hfs:=fun d n=>vH (Wb (show p<7 by omega) op.toNat_lt h) d n;have hex:e.extra∈([[],[101],[110],[119],[100],[100,110]]:List (List UInt8)):=by
  unfold nH at hk;simp only[Qe] at hk
  have:=hk.2
  rw[h] at this;simp only[show ¬ 5≤p by omega,if_false,Qf] at this
  exact this
 have hd:(pre++op::r).drop (at'+1)=r:=by
  rw[show pre++op::r=(pre++[op])++r by simp,List.drop_left' (by simp;omega)]
 unfold lM nG kW;rw[hpg];simp only[show ¬ 5≤p by omega,if_false,hd,Bool.false_eq_true]
 have tk:∀ k,k≤r.length→(pre++op::r).length - (r.length - k)=fA p+1+k:=fun k hk=>by simp;omega
 simp only[Xg,Xp,or_false] at hex;rcases hex with h|h|h|h|h|h<;>rw[h]<;>simp only[hfs]
 · simp[dZ,eL]
   rw[if_neg om];rw[show pre.length+(r.length+1) - r.length=fA p+1 by omega]
 · exact aNy
 · exact aNy
 · rcases r with _|⟨x,_|⟨y,r⟩⟩
   · simp[dZ];omega
   · simp[dZ];omega
   · simp[dZ,eL]
     rw[if_neg om,show pre.length+(r.length+1+1+1) - r.length=fA p+1+1+1 by omega,Int.mul_comm]
 · exact aNy
 · rcases r with _|⟨x,_|⟨y,r⟩⟩
   · simp[dZ];omega
   · simp[dZ];omega
   · simp[dZ,eL]
     rw[if_neg om,show pre.length+(r.length+1+1+1) - r.length=fA p+1+2 by omega]
theorem sN {p:Nat} (op:UInt8) (hp:p<7) (h2:(atP p op.toNat).2≠2):(∃ e,atP p op.toNat=(some e,1))∨atP p op.toNat=(none,0)∨(p=2∧atP p op.toNat=(none,3)):=by
 have hk:=oC op hp;unfold nH at hk;simp only[Qe] at hk;have hk:=hk.1;have mk:∀ k,(decide ((atP p op.toNat).2=k) && (atP p op.toNat).1.isNone)=true→atP p op.toNat=(none,k):=fun k h=>by
  simp at h
  exact Prod.ext h.2 h.1
 have mk1:(decide ((atP p op.toNat).2=1) && (atP p op.toNat).1.isSome)=true→∃ e,atP p op.toNat=(some e,1):=fun h=>by
  simp at h
  obtain⟨e,he⟩:=Ys.1 h.2;exact⟨e,Prod.ext he h.1⟩
 have no2:(decide ((atP p op.toNat).2=2) && (atP p op.toNat).1.isNone)=true→False:=fun h=>h2 (by have:=mk 2 h;rw[this]);by_cases h0:p=0
 · rw[if_pos h0] at hk;split at hk
   · exact (no2 hk).elim
   · exact .inl (mk1 hk)
 rw[if_neg h0] at hk;by_cases h3:p=2
 · rw[if_pos h3,Zs] at hk;rcases hk with hk|hk
   · exact .inl (mk1 hk)
   · exact .inr (.inr ⟨h3,mk 3 hk⟩)
 rw[if_neg h3] at hk;by_cases h4:p=3∨p=4
 · rw[if_pos h4] at hk;split at hk
   · exact (no2 hk).elim
   · rw[Zs] at hk;rcases hk with hk|hk
     · exact .inl (mk1 hk)
     · exact .inr (.inl (mk 0 hk))
 · rw[if_neg h4] at hk;exact .inl (mk1 hk)
theorem Vu {p:Nat} (op:UInt8) (hp:5≤p) (hp7:p<7):∃ e,atP p op.toNat=(some e,1):=by
 have hk:=oC op hp7;unfold nH at hk;simp only[Qe] at hk;have hk:=hk.1;rw[if_neg om,if_neg om,if_neg om] at hk;simp at hk
 obtain⟨e,he⟩:=Ys.1 hk.2;exact⟨e,Prod.ext he hk.1⟩
def rN (b:List UInt8) (p at':Nat):It :=
 if b.length≤at' then ⟨4,b,([],[]),false⟩
 else
  let x:=atR p (b.getD at' 0).toNat
  if x.2=0 then ⟨2,b.take 1,([],[]),false⟩
  else if x.2=3 then ⟨3,b.take 2,([],[]),false⟩
  else nG b p at' (x.1.getD ⟨0,0,[],[],[],false⟩)
theorem lS (b:List UInt8):wV b=rN b (dE b).1 (dE b).2:=rfl
theorem fX {p:Nat} (hp:p<5) (pre r0:List UInt8) (hpre:pre.length=fA p) (f:Nat) (hno:∀ op r,r0=op::r→(atP p op.toNat).2≠2) :
 (dW (f+1) p (pre++r0) r0).getD ⟨4,pre++r0,([],[]),false⟩=rN (pre++r0) p (fA p):=by
 unfold dW rN;rcases r0 with _|⟨op,r⟩
 · simp[fO,show ¬ 5≤p by omega,hpre]
 · have h2:=hno op r rfl;have hg:(pre++op::r).getD (fA p) 0=op:=by simp[←hpre]
   rw[hg,rE op om,if_neg (by simp;omega)];simp only[fO,show ¬ 5≤p by omega,if_false]
   rcases sN op om h2 with⟨e,he⟩|he|⟨hp2,he⟩
   · have:=Ck (p:=p) (op:=op) (e:=e) hp (by rw[he]) pre r hpre (fA p) rfl
     simp[he,this]
   · simp[he]
   · subst hp2;simp only[he];simp
     rw[hpre];congr 2
     simp[fA]
     omega
theorem rO {p:Nat} (hp:5≤p) (hp7:p<7) (a c:UInt8) (r0:List UInt8) (f:Nat) :
 (dW (f+1) p (a::c::r0) r0).getD ⟨4,a::c::r0,([],[]),false⟩=rN (a::c::r0) p 3:=by
 unfold dW rN;rcases r0 with _|⟨x,_|⟨op,r⟩⟩
 · simp[fO,hp]
 · simp[fO,hp]
 · have hk:=oC op hp7;have hg:(a::c::x::op::r).getD 3 0=op:=rfl;rw[hg,rE op hp7,if_neg sm];simp only[fO,hp,if_true];obtain⟨e,he⟩:=Vu op hp hp7;have hex:e.extra=[100]:=by
    unfold nH at hk;simp only[Qe] at hk
    have:=hk.2
    rw[he] at this;simpa[hp] using this
   have hpg:=Pj hp7 (by rw[he]:(atP p op.toNat).1=some e)
   have hfs:=fun d n=>vH (Wb hp7 op.toNat_lt (by rw[he]:(atP p op.toNat).1=some e)) d n
   have hsz:kW e=4:=by unfold kW;rw[hpg,hex];rcases (by omega:p=5∨p=6) with rfl|rfl<;>rfl
   simp only[he];simp only[lM,nG,hsz,hex,hp,if_true,decide_true,Yx,Yy];simp[eL,hfs]
   rw[if_neg om,show r.length+1+1+1+1 - r.length=4 by omega]
   simp
theorem aBu:∀ op:Fin 256,op.val∉[0xCB,0xED,0xDD,0xFD]→(atP 0 op.val).2≠2:=by decide +kernel
theorem aAv:∀ op:Fin 256,op.val≠0xCB→(atP 3 op.val).2≠2∧(atP 4 op.val).2≠2:=by decide +kernel
theorem aAw:∀ op:Fin 256,(atP 1 op.val).2≠2∧(atP 2 op.val).2≠2:=by decide +kernel
theorem aBt:(atP 0 0xCB).2=2∧(atP 0 0xED).2=2∧(atP 0 0xDD).2=2∧(atP 0 0xFD).2=2∧(atP 3 0xCB).2=2∧(atP 4 0xCB).2=2:=by decide +kernel
theorem iG {f p:Nat} {b r:List UInt8} {op:UInt8} (hp:p<5) (h:(atP p op.toNat).2=2):dW (f+1) p b (op::r)=dW f (cR p op) b r:=by
 rw[dW];simp only[fO,show ¬ 5≤p by omega,if_false,h,if_true]
theorem sV (b:List UInt8) (hb:b≠[]):bX b=wV b:=by
 obtain⟨x,t,rfl⟩:=List.exists_cons_of_ne_nil hb;unfold bX;rw[if_neg hb,lS];have n12:=fun op:UInt8=>aAw ⟨op.toNat,op.toNat_lt⟩;obtain⟨p1,p2,p3,p4,p5,p6⟩:=aBt;have n34:=fun (op:UInt8) (h:op≠0xCB)=>aAv ⟨op.toNat,op.toNat_lt⟩ (fun e=>h (Yv.1 e));by_cases h1:x=0xCB
 · subst h1;rw[iG om p1];exact fX (p:=1) om [0xCB] t rfl 1 (fun op r _=>(n12 op).1)
 by_cases h2:x=0xED
 · subst h2;rw[iG om p2];exact fX (p:=2) om [0xED] t rfl 1 (fun op r _=>(n12 op).2)
 by_cases h3:x=0xDD
 · subst h3;rw[iG om p3];rcases t with _|⟨y,t⟩
   · exact fX (p:=3) om [0xDD] [] rfl 1 (fun op r h=>by cases h)
   · by_cases hy:y=0xCB
     · subst hy;rw[show cR 0 0xDD=3 from rfl,iG om p5]
       exact rO (p:=5) om om 0xDD 0xCB t 0
     · have:=fX (p:=3) om [0xDD] (y::t) rfl 1 (fun op r h=>by cases h;exact (n34 _ hy).1)
       have hpg:dE (0xDD::y::t)=(3,1):=by simp[dE,hy]
       rw[hpg];exact this
 by_cases h4:x=0xFD
 · subst h4;rw[iG om p4];rcases t with _|⟨y,t⟩
   · exact fX (p:=4) om [0xFD] [] rfl 1 (fun op r h=>by cases h)
   · by_cases hy:y=0xCB
     · subst hy;rw[show cR 0 0xFD=4 from rfl,iG om p6]
       exact rO (p:=6) om om 0xFD 0xCB t 0
     · have:=fX (p:=4) om [0xFD] (y::t) rfl 1 (fun op r h=>by cases h;exact (n34 _ hy).2)
       have hpg:dE (0xFD::y::t)=(4,1):=by simp[dE,hy]
       rw[hpg];exact this
 · have hx:(atP 0 x.toNat).2≠2:=aBu ⟨x.toNat,x.toNat_lt⟩ (by
    simp only[Xg,Xp,or_false];rintro (h|h|h|h)
    · exact h1 (Yv.1 h)
    · exact h2 (Yv.1 h)
    · exact h3 (Yv.1 h)
    · exact h4 (Yv.1 h))
   have:=fX (p:=0) om [] (x::t) rfl 2 (fun op r h=>by cases h;exact hx)
   have hpg:dE (x::t)=(0,0):=by simp[dE,h1,h2,h3,h4]
   rw[hpg];exact this
theorem Ij (b:List UInt8) (hb:b≠[]):∃ n,1≤n∧n≤b.length∧(wV b).raw=b.take n:=by
 have hl:0<b.length:=Yu.2 hb;rw[lS];unfold rN;split
 · exact⟨b.length,om,Qk _,by simp⟩
 · rename_i hat;dsimp only;split
   · exact⟨1,Qk _,hl,rfl⟩
   · split
     · refine⟨min 2 b.length,om,om,?_⟩
       show b.take 2=_
       rw[Nat.min_def];split
       · rfl
       · rw[Xj om,Xj om]
     · unfold nG;split
       · exact⟨b.length,om,Qk _,by simp⟩
       · exact⟨_,by unfold kW;omega,om,rfl⟩
def oO:Nat→List UInt8→List It
 | 0,_=>[]
 | f+1,b=>if b=[] then [] else bX b::oO f (b.drop (bX b).raw.length)
def dI (b:List UInt8):List It:=oO b.length b
theorem kC (b:List UInt8) (hb:b≠[]):1≤(bX b).raw.length∧(bX b).raw.length≤b.length∧(bX b).raw=b.take (bX b).raw.length:=by
 rw[sV b hb];obtain⟨n,h1,h2,h3⟩:=Ij b hb;rw[h3];simp
 omega
theorem zU:∀ (f g:Nat) (b:List UInt8),b.length≤f→b.length≤g→oO f b=oO g b
 | 0,g,b,hf,hg=>by
   have:b=[]:=List.length_eq_zero_iff.1 om
   subst this;cases g<;>simp[oO]
 | f+1,0,b,hf,hg=>by
   have:b=[]:=List.length_eq_zero_iff.1 om
   subst this;simp[oO]
 | f+1,g+1,b,hf,hg=>by
   unfold oO;by_cases hb:b=[]
   · simp[hb]
   · rw[if_neg hb,if_neg hb]
     have:=kC b hb
     rw[zU f g _ (by rw[Xm];omega) (by rw[Xm];omega)]
theorem zT:dI []=[]:=rfl
theorem pQ (b:List UInt8) (hb:b≠[]):dI b=bX b::dI (b.drop (bX b).raw.length):=by
 have hl:=Yu.2 hb
 have:=kC b hb
 unfold dI;obtain⟨n,hn⟩:∃ n,b.length=n+1:=⟨b.length - 1,om⟩
 rw[hn,oO,if_neg hb];congr 1
 exact zU _ _ _ (by rw[Xm];omega) (by rw[Xm];omega)
theorem Pu (b:List UInt8):(dI b).flatMap (·.raw)=b:=by
 induction hn:b.length using Nat.strongRecOn generalizing b with
 | _ n ih =>
   by_cases hb:b=[]
   · subst hb;rfl
   · have hr:=kC b hb;rw[pQ b hb,Xz,ih _ (by rw[Xm];omega) _ rfl]
     conv=>lhs;arg 1;rw[hr.2.2]
     exact Zm _ _
end Go.Proofs.YtoigglljnklhlaaGreatDoor
