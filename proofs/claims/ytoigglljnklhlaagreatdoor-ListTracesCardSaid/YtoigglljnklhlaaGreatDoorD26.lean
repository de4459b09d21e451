/- Joined. -/
import Derived.Test.YtoigglljnklhlaaGreatDoorD22
import Derived.Test.YtoigglljnklhlaaGreatDoorD25
set_option maxHeartbeats 8000000
set_option maxRecDepth 100000
namespace Go.Proofs.YtoigglljnklhlaaGreatDoor
section
open Go.RowKit Go.Sort
theorem aHT {P:Program} {cl:CL} {ops:Array Oper} {s s':ES} {b0:Option Nat} (h:aDS P cl ops s b0=some s'):s'.nt=s.nt:=by
 unfold aDS at h;simp only[Qr] at h;obtain⟨r,_,rfl⟩:=h;rfl
theorem aJG {P:Program} {cl:CL} {ops:Array Oper} {s s':ES} (h:aFt P cl ops s=some s'):s'.nt=s.nt:=by
 unfold aFt at h;cases hb:ops.any aCA with
 | false=>rw[hb] at h;exact aHT h
 | true =>
   rw[hb] at h;simp only[cond_true] at h;obtain⟨b,_,hb⟩:=List.exists_of_findSome?_eq_some h;exact aHT hb
def aJe (P:Program) (cl:CL) (ops:Array Oper) (nt:Nat) (env:List (Nat × Option SV)) (rs:List (Nat × Bool)):Bool :=
 match aFt P cl ops ⟨nt,0,env,[]⟩ with
 | some s'=>rs.all fun p=>match (alk s'.env p.1).join with
   | some (.c (.bool b))=>b == p.2
   | _=>false
 | none=>false
def aIV (ds:List Nat) (ops:Array Oper):Bool:=ops.toList.all fun o=>match o.dst with|some d=>ds.contains d|none=>true
def aHu (ds:List Nat) (f:Nat→Value):Nat→List Value→List Value
 | _,[]=>[]
 | k,v::l=>(bif ds.contains k then f k else v)::aHu ds f (k+1) l
theorem aIq (ds:List Nat) (f:Nat→Value):∀ (l:List Value) (k:Nat),(aHu ds f k l).length=l.length
 | [],_=>rfl
 | v::l,k=>by simp[aHu,aIq ds f l]
theorem aIr (ds:List Nat) (f:Nat→Value):∀ (l:List Value) (k i:Nat) (v:Value),l[i]? = some v→(aHu ds f k l)[i]? = some (bif ds.contains (k+i) then f (k+i) else v)
 | [],_,_,_,h=>by simp at h
 | u::l,k,0,v,h=>by simp at h;subst h;rfl
 | u::l,k,i+1,v,h=>by
   have:=aIr ds f l (k+1) i v (by simpa using h)
   rw[show k+1+i=k+(i+1) by omega] at this
   simpa[aHu] using this
theorem aJH {ds:List Nat} {ops:Array Oper} (h:aIV ds ops=true) {t:Nat} (ht:ds.contains t=false):aCH ops.toList t=none:=by
 refine aEw fun o ho e=>?_;unfold aIV at h;rw[Xk] at h
 have:=h o ho
 rw[e] at this;dsimp only at this;rw[ht] at this;cases this
theorem aJf {α:Type}:∀ {l:List (Nat × α)} {t:Nat} {x:α},alk l t=some x→(t,x)∈l
 | [],_,_,h=>by cases h
 | p::l,t,x,h=>by
   obtain⟨k,y⟩:=p;unfold alk at h;cases hk:k == t with
   | true =>
     rw[hk] at h;cases h
     obtain rfl:k=t:=by simpa using hk
     exact Qq
   | false =>
     rw[hk] at h;exact Qv _ (aJf h)
theorem aHy [Syms] {env:List (Nat × Option SV)} {w:World} {l:Array Value} (h:∀ p∈env,∀ x,p.2=some x→Den (fun _=>True) (fun _=>none) w x (l.getD p.1 undef)) (t:Nat) (x:SV) (ht:(alk env t).join=some x):Den (fun _=>True) (fun _=>none) w x (l.getD t undef):=by
 cases hk:alk env t with
 | none=>rw[hk] at ht;cases ht
 | some y =>
   rw[hk] at ht;exact h _ (aJf hk) x (by simpa using ht)
section
variable [Syms]
theorem aHc {P:Program} {cl:CL} {id:Nat} {ops:Array Oper} {env:List (Nat × Option SV)} {rs:List (Nat × Bool)} {ds:List Nat} {nt:Nat} {l:List Value} {w:World} {Q:Exit→Act→World→Prop}
 (hm:P.follows .mixedOrders=true) (hcl:aDc P cl) (he:aJe P cl ops nt env rs=true) (hds:aIV ds ops=true) (hlen:l.length=nt)
 (hv:∀ t x,(alk env t).join=some x→Den (fun _=>True) (fun _=>none) w x (l.toArray.getD t undef))
 (hQ:∀ (f:Nat→Value) w',Below w w w'→(∀ p∈rs,f p.1=.bool p.2)→Q .normal ⟨(aHu ds f 0 l).toArray,[]⟩ w'):(Code.region id ops true).wp P Q ⟨l.toArray,[]⟩ w:=by
 unfold aJe at he;split at he
 · rename_i s' hs;refine aFs hm (N:=fun _=>True) (w0:=w) (fun _ _=>trivial) hcl (bs:=fun _=>none) ⟨by simpa using hlen,rfl,Below.refl _ _,fun t x hx=>Den.mono (fun g o _ h2=>⟨⟨trivial,fun _ h=>by cases h⟩,h2⟩) (aCr _) _ _ (hv t x hx),⟨(fun i j g h=>by cases h),(fun i g h=>by cases h)⟩,fun b x hx=>by cases hx⟩ hs fun bs' a' w' hr hk=>?_
   have ha:a'=⟨(aHu ds (fun t=>a'.tmps.getD t undef) 0 l).toArray,[]⟩:=by
    obtain⟨tm,df⟩:=a';have hd:df=[]:=hr.defers;subst hd;congr 1
    have hz:tm.size=nt:=hr.size.trans (aJG hs);refine Array.ext' (List.ext_getElem? fun i=>?_);rcases Zb i l.length with hi|hi
    · have h1:=aIr ds (fun t=>tm.getD t undef) l 0 i _ (Qb hi);rw[Xb] at h1;show tm.toList[i]? = (aHu ds _ 0 l)[i]?
      rw[h1,Xo];have h2:tm[i]? = some (tm.getD i undef):=by
       rw[Array.getD_eq_getD_getElem?,Yk om];rfl
      rw[h2];cases hc:ds.contains i with
      | true=>rfl
      | false =>
        rw[cond_false];have h3:tm.getD i undef=l.toArray.getD i undef:=hk i (aJH hds hc);rw[h3];simp[hi]
    · have h1:(aHu ds (fun t=>tm.getD t undef) 0 l)[i]? = none:=Zf (by rw[aIq];exact hi);show tm.toList[i]? = (aHu ds _ 0 l)[i]?
      rw[h1];exact Zf (by simp;omega)
   rw[ha];refine hQ _ _ hr.below fun p hp=>?_;rw[Xk] at he
   have:=he p hp
   split at this
   · rename_i b hb;have hd:=hr.vals _ _ hb;rw[←(Yq.1 this)];exact hd.1
   · cases this
 · cases he
end
end
section
open Go.RowKit Go.Sort
open Go.Proofs.Tryz
theorem aKn (x0 x1 x2 y0 y1 y2:Int) (x y:Operand) (w:World):((do eqGuard .eql 144 x y (.agg #[x0,x1,x2]) (.agg #[y0,y1,y2]); binOp .eql 144 (.agg #[x0,x1,x2]) (.agg #[y0,y1,y2])):Sem Value).run prog w=.ok (.bool (decide ((x0,x1,x2)=(y0,y1,y2)))) w:=by
 simp [go_sem,eqGuard]
 by_cases h0:x0=y0
 · by_cases h1:x1=y1
   · by_cases h2:x2=y2<;>simp [h0,h1,h2]
   · simp [h0,h1]
 · simp [h0]
theorem aIy {P : Program} {f : FuncId} {fn : Func} {c : Code} (hp : P.funcs[f]? = some fn) (hc : fn.body = some c) (hn : (fn.name == "runtime.NumGoroutine") = false) : aDz P f := fun args w => by
 have hn2 : ¬ fn.name = "runtime.NumGoroutine" := by simpa using hn
 simp [callFunc,hp,hn2,hc]
theorem aJM:aDz prog 141:=aIy (by exact rfl) rfl (by decide +kernel)
theorem Row.of_den [Syms] {N:Nat→Prop} {bs:Bm} {w:World} {T:TypeId} {n:Nat} {ex:Bool} {l:List SV} {u:Value} {xs:List Value} (h:Den N bs w (.row T n ex l) u) (he:∀ vs,DenL N bs w l vs→vs=xs):Row w u n xs:=by
 obtain⟨g,o,cap,cur,vs,rfl,_,hh,⟨r,hr⟩,hl,_,hc⟩:=h;obtain rfl:=he vs hl;refine⟨_,cap,rfl,hc,fun _=>⟨g,o,rfl,(Ql.1 hh).1,fun j hj=>?_⟩⟩
 have:cur[o+j]? = vs[j]? := by rw[←Xo,←Yh,←hr,Yi hj]
 simp[World.cell?,hh,this]
def okW:List (List UInt8)→List SV→Bool
 | [],[]=>true
 | s::q,.c (.string t)::l=>t.data.toList == s && okW q l
 | _,_=>false
theorem aJa [Syms] {N:Nat→Prop} {bs:Bm} {w:World}:∀ {q:List (List UInt8)} {l:List SV} {vs:List Value},okW q l=true→DenL N bs w l vs→vs=aHE q
 | [],[],vs,_,hd=>hd
 | s::q,.c (.string t)::l,vs,h,hd=>by
   simp only[okW,Qe,Yq] at h;obtain⟨rfl,h⟩:=h;obtain⟨_,_,rfl,_,⟨rfl,_⟩,hl⟩:=hd;rw[aJa h hl];rfl
def aKu (L:List (List UInt8)) (B:Bool) (f:FuncId) (l:List SV):Option SV :=
 match l with
 | [.row _ n _ ws,.sym 0]=>bif f == 141 && n == L.length && okW L ws then some (.c (.bool B)) else none
 | _=>none
theorem aHL [Syms] {L:List (List UInt8)} {X:ByteArray} {B:Bool} {bn:aFC} (hL:L.length≤1000) (hs:Syms.σ 0=.string X) (hB:decide (X.data.toList∈L)=B) (hbn:aGn prog bn):aDc prog ⟨aKu L B,bn⟩:=by
 refine⟨fun f l r h=>?_,hbn⟩;replace h:aKu L B f l=some r:=h;unfold aKu at h;split at h
 · rename_i T n ex ws;cases hc:(f == 141 && n == L.length && okW L ws) with
   | false=>rw[hc] at h;cases h
   | true =>
     rw[hc] at h;cases h
     simp only[Qe,Yq] at hc;obtain⟨⟨rfl,rfl⟩,hw⟩:=hc;refine⟨aJM,fun N w vs _ hd=>?_⟩;obtain⟨v,_,rfl,hv,u,_,rfl,⟨rfl,_⟩,rfl⟩:=hd;rw[hs];refine (aIa v L X w (Row.of_den hv fun vs h=>aJa hw h) hL).mono ?_;rintro e w' ⟨rfl,rfl⟩;exact⟨_,rfl,⟨by rw[hB],rfl⟩,Below.refl _ _⟩
 · cases h
def aIw:List (Nat × Op3 × Bool)→aFC
 | [],_,_,_,_=>none
 | p::q,op,t,a,b=>match op,a,b with
   | .eql,.agg [.sym i,.sym j,.sym m],.agg [.c (.int .i64 x),.c (.int .i64 y),.c (.int .i64 z)] =>
     bif t == 144 && (i == p.1 && j == p.1+1 && m == p.1+2) && (x == p.2.1.1 && y == p.2.1.2.1 && z == p.2.1.2.2) then some (.c (.bool p.2.2)) else aIw q op t a b
   | _,_,_=>none
theorem aHp [Syms]:∀ (q:List (Nat × Op3 × Bool)),(∀ p∈q,∃ x:Op3,Syms.σ p.1=.int .i64 x.1∧Syms.σ (p.1+1)=.int .i64 x.2.1∧Syms.σ (p.1+2)=.int .i64 x.2.2∧decide (x=p.2.1)=p.2.2)→aGn prog (aIw q)
 | [],_,op,t,a,b,r,h=>by cases h
 | p::q,hq,op,t,a,b,r,h=>by
   unfold aIw at h;split at h
   · rename_i i j m x y z;cases hc:(t == 144 && (i == p.1 && j == p.1+1 && m == p.1+2) && (x == p.2.1.1 && y == p.2.1.2.1 && z == p.2.1.2.2)) with
     | false =>
       rw[hc] at h;exact aHp q (fun p hp=>hq p (Qv _ hp)) _ _ _ _ _ h
     | true =>
       rw[hc] at h;cases h
       simp only[Qe,Yq] at hc;obtain⟨⟨rfl,⟨rfl,rfl⟩,rfl⟩,⟨rfl,rfl⟩,rfl⟩:=hc;obtain⟨⟨a0,a1,a2⟩,h0,h1,h2,hd⟩:=hq p Qq;intro N bs w u v X Y hu hv;obtain⟨us,rfl,_,_,rfl,_,⟨rfl,_⟩,_,_,rfl,_,⟨rfl,_⟩,_,_,rfl,_,⟨rfl,_⟩,rfl⟩:=hu;obtain⟨vs,rfl,_,_,rfl,_,⟨rfl,_⟩,_,_,rfl,_,⟨rfl,_⟩,_,_,rfl,_,⟨rfl,_⟩,rfl⟩:=hv;rw[h0,h1,h2];exact⟨_,aKn a0 a1 a2 p.2.1.1 p.2.1.2.1 p.2.1.2.2 X Y w,by rw[←hd],rfl⟩
   · cases h
def aIf:List (List UInt8):=[[83,85,66],[65,78,68],[88,79,82],[79,82],[67,80]]
def aIY:List (List UInt8):=[[65,68,68],[65,68,67],[83,66,67]]
def aJi (m:List UInt8) (l:List Op3):List Op3:=if m∈aIf∧l.length=2∧l.head? = some (1,7,0) then l.tail else l
def aJy (m:List UInt8) (l:List Op3):List Op3:=if m∈aIY∧l.length=1 then (1,7,0)::l else l
theorem aKo (m:List UInt8) (l:List Op3):aJy m (aJi m l)=fU (m,l):=by
 unfold aJy aJi fU aIf aIY;dsimp only;by_cases h:m∈([[83,85,66],[65,78,68],[88,79,82],[79,82],[67,80]]:List (List UInt8))∧l.length=2∧l.head? = some (1,7,0)
 · rw[if_pos h,if_pos h,if_neg];rintro⟨h2,_⟩;have h1:=h.1;simp only[Xg,Xp,or_false] at h1 h2;rcases h1 with rfl|rfl|rfl|rfl|rfl<;>exact absurd h2 dc
 · rw[if_neg h,if_neg h]
def BRow (w:World) (b:Nat) (v:Value) (n:Nat) (xs:List Value):Prop :=
 ∃ a cap,v=.slice a n cap∧n≤cap∧(xs≠[]→∃ g o cur,a=some ⟨g,o,none⟩∧b≤g∧w.heap[g]? = some (.cells cur 144 (0,0))∧xs <+: cur.toList.drop o)
theorem BRow.of_owns {w:World} {b:Nat} {v:Value} {n:Nat} {xs:List Value} (h:w.ownsRow b 144 3 v n xs):BRow w b v n xs:=by
 obtain⟨h1,h2⟩:=h;rcases h2 with⟨rfl,rfl⟩|⟨g,cap,cur,rfl,hg,hh,hn,hcap,hcur,rfl⟩
 · rw[Yr] at h1;obtain rfl:=Xc h1;exact⟨none,0,rfl,Qk _,fun h=>absurd rfl h⟩
 · exact⟨_,cap,rfl,hn,fun _=>⟨g,0,cur,rfl,hg,hh,by rw[List.drop_zero];exact List.take_prefix _ _⟩⟩
theorem aFF {α:Type} {xs cur:List α} {o j:Nat} (h:xs <+: cur.drop o) (hj:j<xs.length):cur[o+j]? = xs[j]? := by
 obtain⟨r,hr⟩:=h;rw[←Yh,←hr,Yi hj]
theorem BRow.wrow {w:World} {b:Nat} {v:Value} {n:Nat} {xs:List Value} (h:BRow w b v n xs):WRow w b v n xs:=by
 obtain⟨a,cap,hv,hn,h⟩:=h;refine⟨a,cap,hv,hn,fun hx=>?_⟩;obtain⟨g,o,cur,ha,hb,hh,hp⟩:=h hx;exact⟨g,o,ha,hb,aA hh,fun j hj=>by rw[aC hh,←Xo];exact aFF hp hj,fun j hj=>aH hh _⟩
theorem BRow.below {w w':World} {b:Nat} {v:Value} {n:Nat} {xs:List Value} (h:BRow w b v n xs) (hb:Below w w w'):BRow w' b v n xs:=by
 obtain⟨a,cap,hv,hn,h⟩:=h;refine⟨a,cap,hv,hn,fun hx=>?_⟩;obtain⟨g,o,cur,ha,hg,hh,hp⟩:=h hx;exact⟨g,o,cur,ha,hg,aB hh hb (aA hh),hp⟩
theorem BRow.tailO {w:World} {b g o cap:Nat} {x:Op3} {l:List Op3} (h:BRow w b (.slice (some ⟨g,o,none⟩) (l.length+1) cap) (l.length+1) (opc (x::l))):BRow w b (.slice (some ⟨g,o+3,none⟩) l.length (cap - 1)) l.length (opc l):=by
 obtain⟨a,c,hv,hn,h⟩:=h;cases hv
 refine⟨_,_,rfl,om,fun _=>?_⟩
 obtain⟨g',o',cur,he,h0,hh,r,hr⟩:=h (by show[Value.int .i64 x.1,.int .i64 x.2.1,.int .i64 x.2.2]++opc l≠[];simp);cases he
 refine⟨g,o+3,cur,rfl,h0,hh,r,?_⟩;rw[←Zn,←hr];rfl
theorem aIz {w:World} {b n:Nat} {xs:List Value} (hb:b≤w):BRow (w.alloc (.cells xs.toArray 144)) b (.slice w n n) n xs :=
 ⟨_,n,rfl,Qk _,fun _=>⟨w,0,xs.toArray,rfl,hb,aF _ _,by simp⟩⟩
theorem aHU [Syms] {N:Nat→Prop} {bs:Bm} {w:World}:∀ (ks:List Nat) (vs:List Value),vs=ks.map Syms.σ→(∀ v∈vs,v.oneCell'=true)→DenL N bs w (ks.map SV.sym) vs
 | [],vs,h,_=>h
 | k::ks,vs,h,ho=>by
   subst h;exact⟨_,_,rfl,ho _ Qq,⟨rfl,ho _ Qq⟩,aHU ks _ rfl fun v hv=>ho v (Qv _ hv)⟩
theorem BRow.den [Syms] {w:World} {b:Nat} {v:Value} {n:Nat} {xs:List Value} {ks:List Nat} (h:BRow w b v n xs) (hne:xs≠[]) (hk:xs=ks.map Syms.σ) (ho:∀ v∈xs,v.oneCell'=true):Den (fun _=>True) (fun _=>none) w (.row 144 n false (ks.map SV.sym)) v:=by
 obtain⟨a,cap,hv,hn,h⟩:=h;obtain⟨g,o,cur,rfl,hg,hh,hp⟩:=h hne;exact⟨g,o,cap,cur,xs,hv,trivial,hh,hp,aHU ks xs hk ho,(by intro e;cases e),hn⟩
structure OfSt (w:World) (X:ByteArray) (va v:Value) (l:List Op3) (W:World):Prop where
 bi:W.heap[w.heap.size]? = some (.cells #[.string X,va] 53 (0,0))
 bo:W.heap[w.heap.size+1]? = some (.cells #[.string ⟨#[]⟩,.slice none 0 0] 53 (0,0))
 ba:W.heap[w.heap.size+1+1]? = some (.cells #[.int .i64 1,.int .i64 7,.int .i64 0] 144 (0,0))
 row:BRow W (w.heap.size+1+1+1) v l.length (opc l)
 below:Below w.heap.size w W
theorem OfSt.bel {w:World} {X:ByteArray} {va v:Value} {l:List Op3} {W W':World} (h:OfSt w X va v l W) (hb:Below W W W'):OfSt w X va v l W' :=
 ⟨aB h.bi hb (aA h.bi),aB h.bo hb (aA h.bo),aB h.ba hb (aA h.ba),h.row.below hb,h.below.trans (hb.mono h.below.size)⟩
theorem OfSt.row3 {w:World} {X:ByteArray} {va v:Value} {l:List Op3} {W:World} (h:OfSt w X va v l W):w.heap.size+1+1+1≤W.heap.size:=aA h.ba
theorem OfSt.put {w:World} {X:ByteArray} {va v v':Value} {l l':List Op3} {W:World} (h:OfSt w X va v l W) (hr:BRow W (w.heap.size+1+1+1) v' l'.length (opc l')):OfSt w X va v' l' W:=⟨h.bi,h.bo,h.ba,hr,h.below⟩
def aJO (X:ByteArray) (l:List Op3):Bool:=decide (X.data.toList∈aIY) && decide (l.length=1)
def exC (X:ByteArray) (l:List Op3):Bool:=decide (X.data.toList=[69,88]) && decide (l=[(3,2,0),(3,1,0)])
theorem aKb {X:ByteArray} {l:List UInt8} (h:X.data.toList=l):X=⟨l.toArray⟩:=by
 subst h;rfl
structure LpSt (w:World) (X:ByteArray) (va v:Value) (n:Nat) (l:List Op3) (W:World):Prop where
 bi:W.heap[w.heap.size]? = some (.cells #[.string X,va] 53 (0,0))
 bo:W.heap[w.heap.size+1]? = some (.cells #[.string ⟨#[]⟩,.slice none 0 0] 53 (0,0))
 row:WRow W (w.heap.size+1+1+1) v n (opc l)
 below:Below w.heap.size w W
theorem LpSt.of {w:World} {X:ByteArray} {va v:Value} {l:List Op3} {W:World} (h:OfSt w X va v l W):LpSt w X va v l.length l W:=⟨h.bi,h.bo,h.row.wrow,h.below⟩
theorem LpSt.bel {w:World} {X:ByteArray} {va v:Value} {n:Nat} {l:List Op3} {W W':World} (h:LpSt w X va v n l W) (hb:Below W W W'):LpSt w X va v n l W' :=
 ⟨aB h.bi hb (aA h.bi),aB h.bo hb (aA h.bo),h.row.below hb,h.below.trans (hb.mono h.below.size)⟩
theorem LpSt.set {w:World} {X:ByteArray} {va:Value} {g o cap n j:Nat} {l:List Op3} {x:Op3} {W:World} (h:LpSt w X va (.slice (some ⟨g,o,none⟩) n cap) n l W) (hx:l[j]? = some x) (hn:l.length=n) (y:Int) :
 LpSt w X va (.slice (some ⟨g,o,none⟩) n cap) n (l.set j (x.1,x.2.1,y)) (W.setCell ⟨g,o+j*3+2,none⟩ y):=by
 subst hn;have hg:w.heap.size+1+1+1≤g:=by
  obtain⟨_,_,hv,_,hh⟩:=h.row;cases hv
  obtain⟨_,_,he,hb,_⟩:=hh (by intro e;have:=cG l;rw[e] at this;have:=(Qd.1 hx).1;simp at *;omega)
  cases he
  exact hb
 refine⟨aD h.bi om,aD h.bo om,WRow.setN h.row hx,h.below.setCell (p:=⟨g,o+j*3+2,none⟩) (by show w.heap.size≤g;omega) _⟩
theorem aKl {α:Type} {l:List α} (h:l.length=1):∃ x,l=[x] :=
 match l,h with
 | [x],_=>⟨x,rfl⟩
theorem aKk {α:Type} {l:List α} (h:l.length=2):∃ x y,l=[x,y] :=
 match l,h with
 | [x,y],_=>⟨x,y,rfl⟩
theorem aIn (l:List Op3):∀ v∈opc l,v.oneCell'=true:=fun _ hu=>Sd hu
theorem aKm (n:Nat) (h:n≠2):n=0∨n=1∨∃ k,n=k+3:=by
 rcases Zb n 3 with h1|h1
 · omega
 · exact .inr (.inr ⟨n - 3,om⟩)
def aJh (X:ByteArray) (l:List Op3):Bool:=decide (X.data.toList∈aIf) && decide (l.length=2) && decide (l.head? = some (1,7,0))
theorem aNA {p:Prop} (h:p:=by
 intro f wx hbx hf;have h29:=hf (29,false) Qq;refine hK _ _ (Met.intro (hJ _ _ ?_));simp only[aHu]
 (repeat apply Exists.intro)
 refine⟨?_,rfl⟩;exact⟨h29,Hh (HST.out.bel hbx)⟩):p:=h
theorem aNz {p:Prop} (h:p:=by
 exact⟨w,0,_,[.string ⟨#[69,88]⟩],rfl,trivial,HS5.out.bi,⟨[_],rfl⟩,_,_,rfl,rfl,⟨rfl,rfl⟩,rfl⟩):p:=h
theorem aJb (m:List UInt8) (v:Value) (l:List Op3) (w:World) (hr:Row w v l.length (opc l)) (hs:eR w v l.length (opc l)) (hl:l.length≤1000) :
 Calls prog 98 #[eU m v] w fun e w'=>∃ v',e=.returned (eU m v')∧Row w' v' (bV (m,l)).2.length (opc (bV (m,l)).2)∧Below w w w':=by
 obtain⟨i0,hi,hz0,hz1,hz2⟩:=info_parts Tryz.infoOperand;have HWD:=Hh (fun X (hb:Below w w X)=>aIA m v l X (hr.below hb) om);obtain⟨a,c,rfl,_,_⟩:=id hr;obtain⟨X,hX⟩:∃ X:ByteArray,⟨m.toArray⟩=X:=⟨_,rfl⟩;have hm:m=X.data.toList:=by rw[←hX]
 unfold eU at *;rw[hX] at *;have HSRC:=Hh (fun W (hb:Below w w W)=>(show eR W (.slice a l.length c) l.length (opc l) from hs.imp (fun h=>h) (fun⟨ad,c',h1,h2⟩=>⟨ad,c',h1,fun j u hu=>(hb.cell (block_lt_of_cell (h2 j u hu))).trans (h2 j u hu)⟩)))
 have HL:=Hh hl;have HM:=Hh hm;clear hr hs hl hX hm;go_enter func98,ntmps98
 obtain⟨W0,hW0⟩:∃ W,((w.alloc (.cells #[.string X,.slice a l.length c] 53)).alloc (.cells #[(),zz] 53)).alloc (.cells #[(1:Int),(7:Int),(0:Int)] 144)=W:=⟨_,rfl⟩;have hz0w:W0.heap.size=w.heap.size+1+1+1:=by rw[←hW0];simp
 have hb0:Below w w W0:=by rw[←hW0];exact bl
 have hbi:W0.heap[w.heap.size]? = some (.cells #[.string X,.slice a l.length c] 53 (0,0)):=by rw[←hW0];exact aE (aE (aF _ _))
 have hbo:W0.heap[w.heap.size+1]? = some (.cells #[(),zz] 53 (0,0)):=by
  rw[←hW0]
  have:=aF (w.alloc (.cells #[.string X,.slice a l.length c] 53)) (.cells #[(),zz] 53)
  rw[Qa] at this;exact aE this
 have hba:W0.heap[w.heap.size+1+1]? = some (.cells #[(1:Int),(7:Int),(0:Int)] 144 (0,0)):=by
  rw[←hW0]
  have:=aF ((w.alloc (.cells #[.string X,.slice a l.length c] 53)).alloc (.cells #[(),zz] 53)) (.cells #[(1:Int),(7:Int),(0:Int)] 144)
  rw[Qa,Qa] at this;exact this
 have hO:=iI W0 (w.heap.size+1+1+1) 144 3 om;rw[hz0w] at hO;have HO:=Hh hO;have hsr:=HSRC.out _ (hb0.trans (((Below.refl W0 W0).alloc lr (.cells #[] 144)).mono hb0.size));have HSR:=Hh hsr;have HB0:=Hh hb0;have HBI:=Hh hbi;have HBO:=Hh hbo;have HBA:=Hh hba;have HW0:=Hh hW0;have HZW:=Hh hz0w;clear hO hsr hb0 hbi hbo hba hz0w hW0;go_wp2_with (at_builtin;rw[HW0.out];refine fK rfl _ _ 51 rfl (w.heap.size+1+1+1) 144 i0 (.agg #[(0:Int),(0:Int),(0:Int)]) 3 24 underlying51 hi hz0 hz1 hz2 rfl dc _ 0 [] rfl HO.out _ l.length (opc l) rfl HSR.out (cG l) (fun u hu=>Sd hu) (by have:=HL.out;unfold maxLen;omega) (by have:=HL.out;omega) (by have:=HZW.out;rw[Qa];omega) ?_)
 intro v1 w1 hown hgrow _;have hkb:=fun (k:Nat) (o:Obj) (hk:k<w.heap.size+1+1+1) (h:W0.heap[k]? = some o)=>(hgrow.block k (by rw[Qa];have:=HZW.out;omega) (fun e=>by have h1:=Xi e;dsimp only at h1;omega)).trans (aE h);have hst:OfSt w X (.slice a l.length c) v1 l w1:=⟨hkb _ _ om HBI.out,hkb _ _ om HBO.out,hkb _ _ om HBA.out,BRow.of_owns (by simpa using hown),(HB0.out.trans (((Below.refl W0 W0).alloc lr (.cells #[] 144)).mono HB0.out.size)).grown hgrow (by rw[Qa];have:=HZW.out;omega) (fun q hq=>by cases hq;exact Qn (Xn _) (Qn (Xn _) (Xn _)))⟩
 obtain⟨a1,c1,rfl,hc1,_⟩:=hst.row.wrow.op;have HST:=Hh hst;clear hst hkb hown hgrow HSR HO HB0 HBI HBO HBA HW0 HZW;obtain⟨B1,hB1⟩:∃ B,aJh X l=B:=⟨_,rfl⟩;have HB1:=Hh hB1;clear hB1;go_upto_region 3 with fail
 go_cut [29] (fun t wx=>t=.bool B1∧Hid (OfSt w X (.slice a l.length c) (.slice a1 l.length c1) l wx))
 case first =>
  rename_i J K' hJ hK;have hE1:∀ [Syms],Syms.σ 0=.string X→Den (fun _=>True) (fun _=>none) w1 (.elt 53 [.sym 0] 0) (.pointer w):=fun h0=>⟨w,0,_,[.string X],rfl,trivial,HST.out.bi,⟨[_],rfl⟩,_,_,rfl,rfl,⟨h0.symm,rfl⟩,rfl⟩;by_cases h1:X.data.toList∈aIf
  · by_cases h2:l.length=2
    · obtain⟨x,y,rfl⟩:=aKk h2;have hbb:B1=decide (x=(1,7,0)):=by rw[←HB1.out];unfold aJh;simp[h1]
      obtain⟨x0,x1,x2⟩:=x;obtain⟨y0,y1,y2⟩:=y
      let _:Syms:=⟨fun i=>match i with|0=>.string X|1=>.int .i64 x0|2=>.int .i64 x1|3=>.int .i64 x2|4=>.int .i64 y0|5=>.int .i64 y1|6=>.int .i64 y2|_=>undef⟩
      refine aHc (cl:=⟨aKu aIf true,aIw [(1,(1,7,0),B1)]⟩) (env:=[(1,some (.elt 53 [.sym 0] 0)),(3,some (.elt 144 [.c (.int .i64 1),.c (.int .i64 7),.c (.int .i64 0)] 0)),(4,some (.row 144 2 false [.sym 1,.sym 2,.sym 3,.sym 4,.sym 5,.sym 6]))]) (rs:=[(29,B1)]) (ds:=[14,15,16,17,18,19,20,21,22,23,24,25,26,27,28,29]) (nt:=139) (by decide +kernel) (aHL dc rfl (Qh h1) (aHp _ ?_)) (by clear HB1 hbb;cases B1<;>decide +kernel) (by decide +kernel) rfl (aHy ?_) ?_
      · intro p hp;rw[Yd] at hp;subst hp;exact⟨(x0,x1,x2),rfl,rfl,rfl,hbb.symm⟩
      · intro p hp;simp only[Xg,Xp,or_false] at hp;rcases hp with rfl|rfl|rfl;all_goals
         intro x hx;cases hx
        · exact hE1 rfl
        · exact⟨w.heap.size+1+1,0,_,_,rfl,trivial,HST.out.ba,List.prefix_refl _,_,_,rfl,rfl,⟨rfl,rfl⟩,_,_,rfl,rfl,⟨rfl,rfl⟩,_,_,rfl,rfl,⟨rfl,rfl⟩,rfl⟩
        · exact HST.out.row.den (ks:=[1,2,3,4,5,6]) (by simp[opc]) rfl (aIn _)
      · intro f wx hbx hf;have h29:=hf (29,B1) Qq;refine hK _ _ (Met.intro (hJ _ _ ?_));simp only[aHu]
        (repeat apply Exists.intro)
        refine⟨?_,rfl⟩;exact⟨h29,Hh (HST.out.bel hbx)⟩
    · have hbb:B1=false:=by rw[←HB1.out];unfold aJh;simp[h2]
      subst hbb
      let _:Syms:=⟨fun i=>match i with|0=>.string X|_=>undef⟩
      refine aHc (cl:=⟨aKu aIf true,aIw []⟩) (env:=[(1,some (.elt 53 [.sym 0] 0)),(4,some (.c (.slice a1 l.length c1)))]) (rs:=[(29,false)]) (ds:=[14,15,16,17,18,19,20,21,22,23,24,25,26,27,28,29]) (nt:=139) (by decide +kernel) (aHL dc rfl (Qh h1) (aHp _ sm)) (by
       clear HB1 HST HL hE1;obtain⟨n,hn⟩:∃ n,l.length=n:=⟨_,rfl⟩;rw[hn] at h2 ⊢;rcases aKm n h2 with rfl|rfl|⟨k,rfl⟩<;>kernel_rfl) (by decide +kernel) rfl (aHy ?_) ?_
      · intro p hp;simp only[Xg,Xp,or_false] at hp;rcases hp with rfl|rfl;all_goals
         intro x hx;cases hx
        · exact hE1 rfl
        · exact⟨rfl,rfl⟩
      · exact aNA
  · have hbb:B1=false:=by rw[←HB1.out];unfold aJh;simp[h1]
    subst hbb
    let _:Syms:=⟨fun i=>match i with|0=>.string X|_=>undef⟩
    refine aHc (cl:=⟨aKu aIf false,aIw []⟩) (env:=[(1,some (.elt 53 [.sym 0] 0))]) (rs:=[(29,false)]) (ds:=[14,15,16,17,18,19,20,21,22,23,24,25,26,27,28,29]) (nt:=139) (by decide +kernel) (aHL dc rfl (Qg h1) (aHp _ sm)) (by decide +kernel) (by decide +kernel) rfl (aHy ?_) ?_
    · intro p hp;rw[Yd] at hp;subst hp;intro x hx;cases hx
      exact hE1 rfl
    · exact aNA
 case rest =>
 obtain⟨rfl,HS1⟩:=hcut;clear HST;obtain⟨l1,hl1⟩:∃ l1,aJi X.data.toList l=l1:=⟨_,rfl⟩;have hll1:l1.length≤1000:=by
  rw[←hl1];unfold aJi
  have:=HL.out
  split
  · rw[List.length_tail];omega
  · exact this
 have HL1:=Hh hl1;have HLL1:=Hh hll1;clear hl1 hll1;go_upto_if 29 with fail
 go_cut [4] (fun t wx=>∃ a2 c2,t=.slice a2 l1.length c2∧Hid (OfSt w X (.slice a l.length c) (.slice a2 l1.length c2) l1 wx))
 case first =>
  cases B1
  · have hq:l1=l:=by
     rw[←HL1.out];unfold aJi;rw[if_neg];intro h
     have:=HB1.out
     unfold aJh at this;simp[h.1,h.2.1,h.2.2] at this
    subst hq;go_wp2_with fail
    go_meet
    case rel=>exact⟨a1,c1,rfl,HS1⟩
  · have hh:X.data.toList∈aIf∧l.length=2∧l.head? = some (1,7,0):=by
     have:=HB1.out
     unfold aJh at this;simpa[and_assoc] using this
    have hq:l1=l.tail:=by rw[←HL1.out];unfold aJi;rw[if_pos hh]
    obtain⟨x,l2,rfl⟩:∃ x l2,l=x::l2:=by
     cases l with
     | nil=>simp at hh
     | cons x l2=>exact⟨x,l2,rfl⟩
    obtain rfl:l2=l1:=hq.symm;obtain⟨y,rfl⟩:=aKl (l:=l2) (Nat.succ.inj hh.2.1);obtain⟨_,_,hv,hcap,hg⟩:=HS1.out.row;cases hv
    obtain⟨g,o,cur,rfl,_,hblk,_⟩:=hg (by simp[opc]);have hlt:=aA hblk;have h3:(2:Int)≤(c1:Int):=by have:2≤c1:=hcap;omega
    clear hh hblk hg hcap;dsimp only[List.length_cons,List.length_nil,Nat.zero_add,Nat.reduceAdd];go_wp2_with fail
    go_meet
    case rel=>exact⟨_,_,rfl,Hh (HS1.out.put (BRow.tailO (x:=x) (l:=[y]) HS1.out.row))⟩
 case rest =>
 obtain⟨a2,c2,rfl,HS2⟩:=hcut;clear HS1 HB1;obtain⟨B2,hB2⟩:∃ B,aJO X l1=B:=⟨_,rfl⟩;have HB2:=Hh hB2;clear hB2;go_upto_region 5 with fail
 go_cut [40] (fun t wx=>t=.bool B2∧Hid (OfSt w X (.slice a l.length c) (.slice a2 l1.length c2) l1 wx))
 case first =>
  obtain⟨p0,p1,_,_⟩:=aL HS2.out.bi;have hl0:=aA HS2.out.bi;have hin:Calls prog 141 #[.slice wc 3 3,.string X] (wc.alloc (.cells #[.string ⟨#[65,68,68]⟩,.string ⟨#[65,68,67]⟩,.string ⟨#[83,66,67]⟩] 9)) _:=aIa _ aIY X _ (aHO (L:=aIY) (aF wc _) rfl) dc;have HIN:=Hh hin;clear hin;go_wp2_with fail
  refine HIN.out.mono ?_;rintro e w3 ⟨rfl,rfl⟩;by_cases h1:X.data.toList∈aIY
  · rw[Qh h1];go_wp2_with fail
    go_meet
    case rel =>
     refine⟨?_,Hh (HS2.out.bel (br.alloc lr _))⟩;rw[←HB2.out];unfold aJO;rw[Qh h1,Yp];congr 1
     first|rfl|(simp;done)|(rw[Yl];simp;omega)
  · rw[Qg h1];go_wp2_with fail
    go_meet
    case rel =>
     refine⟨?_,Hh (HS2.out.bel (br.alloc lr _))⟩;rw[←HB2.out];unfold aJO;rw[Qg h1,Zp]
 case rest =>
 obtain⟨rfl,HS3⟩:=hcut;clear HS2;obtain⟨l2,hl2⟩:∃ l2,aJy X.data.toList l1=l2:=⟨_,rfl⟩;have hll2:l2.length≤1001:=by
  rw[←hl2];unfold aJy
  have:=HLL1.out
  split
  · rw[Qp];omega
  · omega
 have HL2:=Hh hl2;have HLL2:=Hh hll2;clear hl2 hll2;go_upto_if 40 with fail
 go_cut [4] (fun t wx=>∃ a3 c3,t=.slice a3 l2.length c3∧Hid (OfSt w X (.slice a l.length c) (.slice a3 l2.length c3) l2 wx))
 case first =>
  cases B2
  · have hq:l2=l1:=by
     rw[←HL2.out];unfold aJy;rw[if_neg];intro h
     have:=HB2.out
     unfold aJO at this;simp[h.1,h.2] at this
    subst hq;go_wp2_with fail
    go_meet
    case rel=>exact⟨a2,c2,rfl,HS3⟩
  · have hh:X.data.toList∈aIY∧l1.length=1:=by
     have:=HB2.out
     unfold aJO at this;simpa using this
    have hq:l2=(1,7,0)::l1:=by rw[←HL2.out];unfold aJy;rw[if_pos hh]
    obtain⟨⟨x0,x1,x2⟩,rfl⟩:=aKl hh.2;subst hq;obtain⟨_,_,hv,hcap,hg⟩:=HS3.out.row.wrow.op;cases hv
    obtain⟨g,o,rfl,_,hlt,hcs⟩:=hg sm;obtain⟨k0,k1,k2,_,_,_⟩:=hcs 0 _ rfl;simp only[Yr,Xu] at k0 k1 k2;obtain⟨q0,q1,q2,_⟩:=bE HS3.out.ba;have hl2:=aA HS3.out.ba;clear hh hg hcap hcs;go_wp2_with fail
    go_still_tail 4,kr
    go_wp2_with fail
    go_meet
    case rel =>
     have hbw:Below wc wc (wc.drew.alloc (.cells #[(1:Int),(7:Int),(0:Int),x0,x1,x2] 144)):=(Below.drew br).alloc lr _;exact⟨_,_,rfl,Hh ((HS3.out.bel hbw).put (aIz (w:=wc.drew) (xs:=opc [(1,7,0),(x0,x1,x2)]) (by have:=HS3.out.row3;exact this)))⟩
 case rest =>
 obtain⟨a3,c3,rfl,HS4⟩:=hcut;clear HS3 HB2;go_upto_region 9 with fail
 obtain⟨k5,hk5⟩:∃ k,wc.heap.size=k:=⟨_,rfl⟩;obtain⟨W5,hW5⟩:∃ W,(wc.alloc (.cells #[(3:Int),(2:Int),(0:Int)] 144)).alloc (.cells #[(3:Int),(1:Int),(0:Int)] 144)=W:=⟨_,rfl⟩;have hb5:Below wc wc W5:=by rw[←hW5];exact (br.alloc lr _).alloc (by rw[Qa];omega) _
 have h55:W5.heap[k5]? = some (.cells #[(3:Int),(2:Int),(0:Int)] 144 (0,0)):=by rw[←hW5,←hk5];exact aE (aF _ _)
 have h56:W5.heap[k5+1]? = some (.cells #[(3:Int),(1:Int),(0:Int)] 144 (0,0)):=by
  rw[←hW5,←hk5]
  have:=aF (wc.alloc (.cells #[(3:Int),(2:Int),(0:Int)] 144)) (.cells #[(3:Int),(1:Int),(0:Int)] 144)
  rwa [Qa] at this
 have HS5:=Hh (HS4.out.bel hb5);have H55:=Hh h55;have H56:=Hh h56;rw[hW5,hk5];clear hk5 hW5 hb5 h55 h56 HS4;obtain⟨B3,hB3⟩:∃ B,exC X l2=B:=⟨_,rfl⟩;have HB3:=Hh hB3;clear hB3;go_cut [69] (fun t wx=>t=.bool B3∧Hid (OfSt w X (.slice a l.length c) (.slice a3 l2.length c3) l2 wx)∧Hid (wx.heap[k5]? = some (.cells #[(3:Int),(2:Int),(0:Int)] 144 (0,0)))∧Hid (wx.heap[k5+1]? = some (.cells #[(3:Int),(1:Int),(0:Int)] 144 (0,0))))
 case first =>
  rename_i J K' hJ hK;have hbe:∀ W,Below W5 W5 W→Hid (OfSt w X (.slice a l.length c) (.slice a3 l2.length c3) l2 W)∧Hid (W.heap[k5]? = some (.cells #[(3:Int),(2:Int),(0:Int)] 144 (0,0)))∧Hid (W.heap[k5+1]? = some (.cells #[(3:Int),(1:Int),(0:Int)] 144 (0,0))) :=
   fun W hb=>⟨Hh (HS5.out.bel hb),Hh (aB H55.out hb (aA H55.out)),Hh (aB H56.out hb (aA H56.out))⟩
  have HBE:=Hh hbe;clear hbe;by_cases h1:X.data.toList=[69,88]
  · obtain rfl:X=⟨#[69,88]⟩:=aKb h1;by_cases h2:l2.length=2
    · obtain⟨⟨x0,x1,x2⟩,⟨y0,y1,y2⟩,rfl⟩:=aKk h2;obtain⟨b1,hb1⟩:∃ b,decide ((x0,x1,x2)=((3,2,0):Op3))=b:=⟨_,rfl⟩;obtain⟨b2,hb2⟩:∃ b,decide ((y0,y1,y2)=((3,1,0):Op3))=b:=⟨_,rfl⟩;have hbb:B3=(b1 && b2):=by rw[←HB3.out,←hb1,←hb2];unfold exC;simp
      subst hbb
      let _:Syms:=⟨fun i=>match i with|1=>.int .i64 x0|2=>.int .i64 x1|3=>.int .i64 x2|4=>.int .i64 y0|5=>.int .i64 y1|6=>.int .i64 y2|_=>undef⟩
      refine aHc (cl:=⟨fun _ _=>none,aIw [(1,(3,2,0),b1),(4,(3,1,0),b2)]⟩) (env:=[(1,some (.elt 53 [.c (.string ⟨#[69,88]⟩)] 0)),(4,some (.row 144 2 false [.sym 1,.sym 2,.sym 3,.sym 4,.sym 5,.sym 6])),(5,some (.elt 144 [.c (.int .i64 3),.c (.int .i64 2),.c (.int .i64 0)] 0)),(6,some (.elt 144 [.c (.int .i64 3),.c (.int .i64 1),.c (.int .i64 0)] 0))]) (rs:=[(69,b1 && b2)]) (ds:=[48,49,50,51,52,53,54,55,56,57,58,59,60,61,62,63,64,65,66,67,68,69]) (nt:=139) (by decide +kernel) ⟨(by intro f l r h;cases h),aHp _ ?_⟩ (by clear HB3 hb1 hb2;cases b1<;>cases b2<;>decide +kernel) (by decide +kernel) rfl (aHy ?_) ?_
      · intro p hp;simp only[Xg,Xp,or_false] at hp;rcases hp with rfl|rfl
        · exact⟨(x0,x1,x2),rfl,rfl,rfl,hb1⟩
        · exact⟨(y0,y1,y2),rfl,rfl,rfl,hb2⟩
      · intro p hp;simp only[Xg,Xp,or_false] at hp;rcases hp with rfl|rfl|rfl|rfl;all_goals
         intro x hx;cases hx
        · exact aNz
        · exact HS5.out.row.den (ks:=[1,2,3,4,5,6]) (by simp[opc]) rfl (aIn _)
        · exact⟨k5,0,_,_,rfl,trivial,H55.out,List.prefix_refl _,_,_,rfl,rfl,⟨rfl,rfl⟩,_,_,rfl,rfl,⟨rfl,rfl⟩,_,_,rfl,rfl,⟨rfl,rfl⟩,rfl⟩
        · exact⟨k5+1,0,_,_,rfl,trivial,H56.out,List.prefix_refl _,_,_,rfl,rfl,⟨rfl,rfl⟩,_,_,rfl,rfl,⟨rfl,rfl⟩,_,_,rfl,rfl,⟨rfl,rfl⟩,rfl⟩
      · intro f wx hbx hf;have h29:=hf (69,b1 && b2) Qq;refine hK _ _ (Met.intro (hJ _ _ ?_));simp only[aHu]
        (repeat apply Exists.intro)
        refine⟨?_,rfl⟩;exact⟨h29,HBE.out _ hbx⟩
    · have hbb:B3=false:=by
       rw[←HB3.out];unfold exC;rw[Bool.and_eq_false_iff];exact .inr (Qg (by intro e;rw[e] at h2;exact h2 rfl))
      subst hbb
      let _:Syms:=⟨fun _=>undef⟩
      refine aHc (cl:=⟨fun _ _=>none,aIw []⟩) (env:=[(1,some (.elt 53 [.c (.string ⟨#[69,88]⟩)] 0)),(4,some (.c (.slice a3 l2.length c3)))]) (rs:=[(69,false)]) (ds:=[48,49,50,51,52,53,54,55,56,57,58,59,60,61,62,63,64,65,66,67,68,69]) (nt:=139) (by decide +kernel) ⟨(by intro f l r h;cases h),aHp _ sm⟩ (by
       clear HB3 HS5 HLL2 HL2;obtain⟨n,hn⟩:∃ n,l2.length=n:=⟨_,rfl⟩;rw[hn] at h2 ⊢;rcases aKm n h2 with rfl|rfl|⟨k,rfl⟩<;>kernel_rfl) (by decide +kernel) rfl (aHy ?_) ?_
      · intro p hp;simp only[Xg,Xp,or_false] at hp;rcases hp with rfl|rfl;all_goals
         intro x hx;cases hx
        · exact aNz
        · exact⟨rfl,rfl⟩
      · intro f wx hbx hf;have h29:=hf (69,false) Qq;refine hK _ _ (Met.intro (hJ _ _ ?_));simp only[aHu]
        (repeat apply Exists.intro)
        refine⟨?_,rfl⟩;exact⟨h29,HBE.out _ hbx⟩
  · have hbb:B3=false:=by rw[←HB3.out];unfold exC;simp[h1]
    subst hbb;have hne:=(eqC X [69,88]).trans (Qg h1);obtain⟨p0,p1,_,_⟩:=aL HS5.out.bi;have hl0:=aA HS5.out.bi;clear h1;go_quiet (fail)
    refine hK _ _ (Met.intro (hJ _ _ ?_))
    (repeat apply Exists.intro)
    refine⟨?_,rfl⟩;exact⟨rfl,HBE.out _ (aHb br _)⟩
 case rest =>
 obtain⟨rfl,HS6,H65,H66⟩:=hcut;clear HS5 H55 H56;obtain⟨l3,hl3⟩:∃ l3,exP X.data.toList l2=l3:=⟨_,rfl⟩;have hll3:l3.length≤1001:=by
  rw[←hl3];unfold exP;split
  · decide
  · exact HLL2.out
 have HL3:=Hh hl3;have HLL3:=Hh hll3;clear hl3 hll3;go_upto_if 69 with fail
 go_cut [4] (fun t wx=>∃ a4 c4,t=.slice a4 l3.length c4∧Hid (OfSt w X (.slice a l.length c) (.slice a4 l3.length c4) l3 wx))
 case first =>
  cases B3
  · have hq:l3=l2:=by
     rw[←HL3.out];unfold exP;rw[if_neg];intro h
     have:=HB3.out
     unfold exC at this;simp[h.1,h.2] at this
    subst hq;go_wp2_with fail
    go_meet
    case rel=>exact⟨a3,c3,rfl,HS6⟩
  · have hh:X.data.toList=[69,88]∧l2=[(3,2,0),(3,1,0)]:=by
     have:=HB3.out
     unfold exC at this;simpa using this
    have hq:l3=[(3,1,0),(3,2,0)]:=by rw[←HL3.out];unfold exP;rw[if_pos hh]
    subst hq;obtain⟨q0,q1,q2,_⟩:=bE H65.out;obtain⟨r0,r1,r2,_⟩:=bE H66.out;have hl5:=aA H65.out;have hl6:=aA H66.out;clear hh;go_wp2_with fail
    go_meet
    case rel =>
     have hbw:Below wc wc (wc.alloc (.cells #[(3:Int),(1:Int),(0:Int),(3:Int),(2:Int),(0:Int)] 144)):=br.alloc lr _;exact⟨_,_,rfl,Hh ((HS6.out.bel hbw).put (aIz (w:=wc) (xs:=opc [(3,1,0),(3,2,0)]) (by have:=HS6.out.row3;exact this)))⟩
 case rest =>
 obtain⟨a4,c4,rfl,HS7⟩:=hcut;clear HS6 H65 H66 HB3;obtain⟨wd,hwd⟩:∃ k,cY (m,l)=k:=⟨_,rfl⟩;have hw3:wd=0∨wd=1∨wd=2:=by
  rw[←hwd];unfold cY;split
  · exact .inl rfl
  · split
    · exact .inr (.inr rfl)
    · exact .inr (.inl rfl)
 have hcan:(bV (m,l)).2=l3.map (sC wd):=by
  unfold bV;rw[hwd,←aKo,HM.out,HL1.out,HL2.out,HL3.out]
 have hwd8:=HWD.out _ HS7.out.below;rw[show (⟨m.toArray⟩:ByteArray)=X by have h:=HM.out;subst h;rfl,hwd] at hwd8
 have HWD8:=Hh hwd8;clear hwd8;have HW3:=Hh hw3;have HCAN:=Hh hcan;clear hwd hw3 hcan HL1 HL2 HL3 HLL1 HLL2;obtain⟨p0,p1,_,_⟩:=aL HS7.out.bi;have hl0:=aA HS7.out.bi;go_wp2_with fail
 refine HWD8.out.mono ?_;rintro e w8 ⟨rfl,hb8⟩;have HS8:=Hh (LpSt.of (HS7.out.bel hb8));clear hb8 p0 p1 hl0 HS7 HWD HWD8;go_wp2_with fail
 go_loopw [8] (fun i wr=>∃ j:Nat,j≤l3.length∧i=.int .i64 j∧Hid (LpSt w X (.slice a l.length c) (.slice a4 l3.length c4) l3.length (lkL (sC wd) l3 j) wr)) (fun i _=>l3.length - (intOf i).toNat)
 case atStart=>exact⟨0,Qi _,rfl,Hh (by unfold lkL;simpa using HS8.out)⟩
 case round =>
  obtain⟨j,hj,rfl,HP⟩:=hrel;have hlb:=HLL3.out;by_cases hlt:j<l3.length
  · --[
    obtain⟨⟨x0,x1,x2⟩,hx⟩:∃ x,l3[j]? = some x:=⟨_,Qb hlt⟩;have hlen:=bY (sC wd) l3 j;have hrow:WRow wr (w.heap.size+1+1+1) (.slice a4 (lkL (sC wd) l3 j).length c4) (lkL (sC wd) l3 j).length (opc (lkL (sC wd) l3 j)):=by rw[hlen];exact HP.out.row
    obtain⟨_,_,hv,_,hh⟩:=WRow.op hrow;rw[hlen] at hv;cases hv
    obtain⟨g,o,rfl,hg0,hg1,hh⟩:=hh (by intro e;rw[e] at hlen;simp at hlen;omega);obtain⟨k0,k1,k2,f0,f1,f2⟩:=hh j _ (nF hx);dsimp only at k0 k1 k2;have HX:=Hh hx;have hi0:(0:Int)≤(j:Int):=om
    have hi1:(j:Int)<(l3.length:Int):=om
    clear hh hrow hlen hx;have HSAME:=Hh (fun (h:sC wd (x0,x1,x2)=(x0,x1,x2)) W (hb:Below wr wr W)=>(show Hid (LpSt w X (.slice a l.length c) (.slice (some ⟨g,o,none⟩) l3.length c4) l3.length (lkL (sC wd) l3 (j+1)) W) from Hh (by rw[←cJ HX.out h];exact HP.out.bel hb)))
    have HSET:=Hh (fun y (h:sC wd (x0,x1,x2)=(x0,x1,y)) W (hb:Below wr wr W)=>(show LpSt w X (.slice a l.length c) (.slice (some ⟨g,o,none⟩) l3.length c4) l3.length (lkL (sC wd) l3 (j+1)) (W.setCell ⟨g,o+j*3+2,none⟩ y) from by rw[←kG HX.out h];exact (HP.out.bel hb).set (nF HX.out) (bY _ _ _) y))
    by_cases h6:x0=6
    · subst h6;by_cases hn:x2<0
      · have hng:¬ (0:Int)≤x2:=om
        rcases HW3.out with rfl|rfl|rfl
        · have HSM:=Hh (HSAME.out (if_neg (by rintro⟨_,_,h|h⟩<;>exact absurd h.1 dc)))
          clear HSAME HSET;go_wp2_with fail
          go_roundw
          case rel=>exact⟨j+1,om,by go_num,HSM.out _ br⟩
          case measure=>simp[intOf];omega
        · by_cases hm:-128≤x2
          · have HSM:=Hh (HSET.out (x2+256) ((if_pos ⟨rfl,hn,.inl ⟨rfl,hm⟩⟩).trans (by first|rfl|simp)));clear HSAME HSET;go_wp2_with fail
            go_roundw
            case rel=>exact⟨j+1,om,by go_num,Hh (HSM.out _ br)⟩
            case measure=>simp[intOf];omega
          · have HSM:=Hh (HSAME.out (if_neg (by rintro⟨_,_,h|h⟩;exact hm h.2;exact absurd h.1 dc)))
            clear HSAME HSET;go_wp2_with fail
            go_roundw
            case rel=>exact⟨j+1,om,by go_num,HSM.out _ br⟩
            case measure=>simp[intOf];omega
        · by_cases hm:-32768≤x2
          · have HSM:=Hh (HSET.out (x2+65536) ((if_pos ⟨rfl,hn,.inr ⟨rfl,hm⟩⟩).trans (by first|rfl|simp)));clear HSAME HSET;go_wp2_with fail
            go_roundw
            case rel=>exact⟨j+1,om,by go_num,Hh (HSM.out _ br)⟩
            case measure=>simp[intOf];omega
          · have HSM:=Hh (HSAME.out (if_neg (by rintro⟨_,_,h|h⟩;exact absurd h.1 dc;exact hm h.2)))
            clear HSAME HSET;go_wp2_with fail
            go_roundw
            case rel=>exact⟨j+1,om,by go_num,HSM.out _ br⟩
            case measure=>simp[intOf];omega
      · have hn0:(0:Int)≤x2:=om
        have HSM:=Hh (HSAME.out (if_neg (fun q=>hn q.2.1)));clear HSAME HSET;go_wp2_with fail
        go_roundw
        case rel=>exact⟨j+1,om,by go_num,HSM.out _ br⟩
        case measure=>simp[intOf];omega
    · have h6b:(x0 != 6)=true:=by simpa using h6
      have HSM:=Hh (HSAME.out (if_neg (fun q=>h6 q.1)));clear HSAME HSET;go_wp2_with fail
      go_roundw
      case rel=>exact⟨j+1,om,by go_num,HSM.out _ br⟩
      case measure=>simp[intOf];omega
  · obtain rfl:j=l3.length:=om
    have hp:=HP.out;rw[show lkL (sC wd) l3 l3.length=l3.map (sC wd) by unfold lkL;simp,←HCAN.out] at hp
    have HP2:=Hh hp;obtain⟨p0,p1,_,_⟩:=aL hp.bi;obtain⟨t0,t1,s0,s1⟩:=aL hp.bo;have hl0:=aA hp.bi;have hl1:=aA hp.bo;clear hp;go_wp2_with fail
    generalize hF:World.setCell (World.setCell wr _ _) _ _=F;have hp:=HP2.out;have hk:Kb (w.heap.size+1) wr F:=by rw[←hF];exact ((Kb.refl _ _).setCell _ _).setCell _ _
    have hfx:F.heap[w.heap.size+1]? = some (.cells #[.string X,.slice a4 l3.length c4] 53 (0,0)):=by rw[←hF];exact aG (aG hp.bo)
    have hrow:=(hp.row.kb hk om).row;have hbf:Below w w F:=by rw[←hF];exact (hp.below.setCell (p:=⟨w+1,0,none⟩) (by show w.heap.size≤w.heap.size+1;omega) _).setCell (p:=⟨w+1,1,none⟩) (by show w.heap.size≤w.heap.size+1;omega) _
    have hcl:(bV (m,l)).2.length=l3.length:=by rw[HCAN.out,Qs]
    rw[hcl];obtain⟨r0,r1,_,_⟩:=aL hfx;have hlf:=aA hfx;clear hF hk hp hfx p0 p1 t0 t1 s0 s1 hl0 hl1;exact bodyPost_ret (v:=.agg #[.string X,.slice a4 l3.length c4]) (by simp[results,results98,go_sem,r0,r1]) rfl ⟨_,rfl,hrow,hbf⟩
end
end Go.Proofs.YtoigglljnklhlaaGreatDoor
