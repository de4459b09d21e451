/- Joined. -/
import Derived.Test.YtoigglljnklhlaaGreatDoorD34
import Derived.Test.YtoigglljnklhlaaGreatDoorD17
import Derived.Test.YtoigglljnklhlaaGreatDoorD16
import Derived.Test.YtoigglljnklhlaaGreatDoorD11
import Derived.Test.YtoigglljnklhlaaGreatDoorD09
import Derived.RangeFuncCalls
import Derived.RangeFuncNested
import Derived.RegionDies
set_option maxHeartbeats 8000000
set_option maxRecDepth 100000
namespace Go.Proofs.YtoigglljnklhlaaGreatDoor
section
open Go.RowKit Go.Sort
open Go.Proofs.Tryz
def pfx (page:Nat):List UInt8:=([[],[203],[237],[221],[253],[221,203],[253,203]]:List (List UInt8)).getD page []
theorem wF:∀ p:Fin 7,(pfx p.val).length≤2:=dc
theorem Rv:∀ p:Fin 7,∀ q:Fin 7,pfx p.val=pfx q.val→p=q:=dc
theorem Me {w:World} (x:UInt8):Row (w.alloc (.cells #[.int .u8 x.toNat] 5)) (.slice w 1 1) [x].length (aT [x]) :=
 ⟨_,1,rfl,Qk _,fun _=>⟨_,0,rfl,by simp,fun j hj=>by
  have:j=0:=by simp[aT] at hj;omega
  subst this;simp[go_sem,aT]⟩⟩
theorem Sa {w:World} {base g:Nat} {T:TypeId} {u:Value} (h:w.heap[g]? = some (.cells #[u] T (0,0))) (hb:base≤g):w.ownsRow base T 1 (.slice g 1 1) 1 [u] :=
 ⟨by simp,.inr ⟨g,1,#[u],rfl,hb,h,by simp,by simp[maxLen],by simp,by simp⟩⟩
theorem Vn (p:Int) (x:UInt8) (hp:p=1∧x=203∨p=2∧x=237∨p=3∧x=221∨p=4∧x=253) (w:World):Calls prog 225 #[p] w fun e w'=>e=.returned (.slice w 1 1)∧w'=w.alloc (.cells #[.int .u8 x.toNat] 5):=by
 rcases hp with⟨rfl,rfl⟩|⟨rfl,rfl⟩|⟨rfl,rfl⟩|⟨rfl,rfl⟩;all_goals
  go_enter func225,ntmps225
  go_wp2_with fail
  go_ret;exact⟨rfl,rfl⟩
theorem aAu (w:World):Calls prog 225 #[(0:Int)] w fun e w'=>e=.returned zz∧w'=w:=by
 go_enter func225,ntmps225
 go_wp2_with fail
 go_ret;exact⟨rfl,rfl⟩
theorem Vm (p q:Int) (x:UInt8) (hq:p - 5+3=q) (h6:p=5∧x=221∨p=6∧x=253) (w:World):Calls prog 225 #[p] w fun e w'=>∃ v,e=.returned v∧Row w' v [x,203].length (aT [x,203])∧Below w w w':=by
 obtain⟨i0,hi,hz0,hz1,hz2⟩:=info_parts Tryz.infoByte;have HC:=Hh (fun W=>Vn q x (by rcases h6 with⟨rfl,rfl⟩|⟨rfl,rfl⟩;exact .inr (.inr (.inl ⟨om,rfl⟩));exact .inr (.inr (.inr ⟨om,rfl⟩))) W)
 have hq2:q=3∨q=4:=om
 have hn1:(p == 1)=false:=by simp;omega
 have hn2:(p == 2)=false:=by simp;omega
 have hn3:(p == 3)=false:=by simp;omega
 have hn4:(p == 4)=false:=by simp;omega
 have hn5:(p == 5)=true∨((p == 5)=false∧(p == 6)=true):=by simp;omega
 have hp1:0≤p∧p≤10:=om
 obtain⟨hp1,hp2⟩:=hp1;clear h6 hq2;rcases hn5 with hn5|⟨hn5,hn6⟩;all_goals
  go_enter func225,ntmps225
  go_wp2_with fail
  refine (HC.out _).mono ?_;rintro e w1 ⟨rfl,rfl⟩;go_wp2_with (at_builtin;refine wpList_append_own _ rfl _ _ 33 rfl w 5 i0 (.int .u8 0) 1 1 underlying33 hi hz0 hz1 hz2 rfl dc _ _ _ rfl (Sa (u:=.int .u8 x.toNat) (aE (aF _ _)) lr) ⟨w+1,0,none⟩ 1 1 [.int .u8 203] rfl rfl ?c1 ?c2 ?c3 ?c4 ?c5 ?_)
  case c1 =>
   intro q u hq;rw[bD];match q,hq with
   | 0,hq=>simp at hq;subst hq;simp[go_sem]
  case c2=>first|exact⟨rfl,rfl⟩|(intro u hu;simp at hu;subst hu;rfl)|rfl
  case c3=>unfold maxLen;omega
  case c4=>omega
  case c5=>(first|omega|(simp[go_sem];done)|(simp[go_sem];omega))
  intro v' w1 hown' hgrow hiff';have hb':Below w w w1:=(show Below w w ((w.alloc _).alloc _) from bl).grown hgrow (by simp[go_sem];omega) (by
   intro q hq;cases hq
   exact Qk _)
  have HO:=Hh hown';have HB:=Hh hb';clear hown' hgrow hiff' hb';go_wp2_with fail
  go_ret;exact⟨_,rfl,Row.of_owns HO.out,HB.out⟩
theorem wE (p:Nat) (hp:p<7) (w:World):Calls prog 225 #[.int .i64 p] w fun e w'=>∃ v,e=.returned v∧Row w' v (pfx p).length (aT (pfx p))∧Below w w w':=by
 have h1:∀ (p:Int) (x:UInt8),(p=1∧x=203∨p=2∧x=237∨p=3∧x=221∨p=4∧x=253)→Calls prog 225 #[.int .i64 p] w fun e w'=>∃ v,e=.returned v∧Row w' v [x].length (aT [x])∧Below w w w':=fun p x h=>(Vn p x h w).mono fun e w' ⟨he,hw⟩=>⟨_,he,hw ▸ Me x,by rw[hw];(repeat (first|exact Below.refl _ _|refine Below.drew ?_|(refine cD ?_ (by first|omega|(simp[go_sem];done)|(simp[go_sem];omega)) _)|(refine Below.alloc ?_ (by first|omega|(simp[go_sem];done)|(simp[go_sem];omega)) _)|(refine Below.setCell ?_ (by first|omega|(simp[go_sem];done)|(simp[go_sem];omega)) _)))⟩
 rcases (by omega:p=0∨p=1∨p=2∨p=3∨p=4∨p=5∨p=6) with rfl|rfl|rfl|rfl|rfl|rfl|rfl
 · exact (aAu w).mono fun e w' ⟨he,hw⟩=>⟨_,he,by rw[hw];exact Row.nil _,by rw[hw];exact Below.refl _ _⟩
 · exact h1 1 203 (.inl ⟨rfl,rfl⟩)
 · exact h1 2 237 (.inr (.inl ⟨rfl,rfl⟩))
 · exact h1 3 221 (.inr (.inr (.inl ⟨rfl,rfl⟩)))
 · exact h1 4 253 (.inr (.inr (.inr ⟨rfl,rfl⟩)))
 · exact Vm 5 3 221 rfl (.inl ⟨rfl,rfl⟩) w
 · exact Vm 6 4 253 rfl (.inr ⟨rfl,rfl⟩) w
theorem Br (page:Nat) (hp:page<7) (v:Value) (w:World) (hv:Row w v (pfx page).length (aT (pfx page))):Calls prog 193 #[v] w fun e w'=>e=.returned (.tuple #[page,.bool true])∧Below w w w':=by
 have HV:=Hh hv;clear hv;go_enter func193,ntmps193
 go_wp2_with fail
 go_loopw [4,5] (fun _ i wr=>∃ j:Nat,j≤page∧i=.int .i64 j∧Hid (Below w w wr)) (fun _ i _=>page+1 - (intOf i).toNat)
 case atStart=>exact⟨0,Qi _,rfl,Hh br⟩
 case round =>
  obtain⟨j,hj,rfl,HB⟩:=hrel;have h7:(j:Int)<7:=om
  go_wp2_with fail
  refine (wE j om _).mono ?_;rintro e w1 ⟨v1,rfl,hr1,hb1⟩;have HR1:=Hh hr1;have HB1:=Hh (HB.out.trans (hb1.mono HB.out.size));clear hr1 hb1;go_wp2_with fail
  have hl1:(pfx j).length≤2:=wF ⟨j,om⟩
  have hl2:(pfx page).length≤2:=wF ⟨page,hp⟩;by_cases he:j=page
  · subst he;have hd:decide (pfx j=pfx j)=true:=by simp
    have HE:=Hh (fun W (hb:Below w w W) (hr:Row W v1 (pfx j).length (aT (pfx j)))=>sX v1 v (pfx j) (pfx j) W hr (HV.out.below hb) om om);rw[hd] at HE;refine (HE.out _ HB1.out HR1.out).mono ?_;rintro e w2 ⟨rfl,hb2⟩;have HB2:=Hh (HB1.out.trans (hb2.mono HB1.out.size));clear hb2;go_wp2_with fail
    go_ret2;exact⟨rfl,HB2.out⟩
  · have hd:decide (pfx j=pfx page)=false:=Qg (fun e=>he (by have:=Rv ⟨j,om⟩ ⟨page,hp⟩ e;exact congrArg Fin.val this));have HE:=Hh (fun W (hb:Below w w W) (hr:Row W v1 (pfx j).length (aT (pfx j)))=>sX v1 v (pfx j) (pfx page) W hr (HV.out.below hb) om om);rw[hd] at HE;refine (HE.out _ HB1.out HR1.out).mono ?_;rintro e w2 ⟨rfl,hb2⟩;have HB2:=Hh (HB1.out.trans (hb2.mono HB1.out.size));clear hb2;go_wp2_with fail
    go_roundw
    case rel=>exact⟨j+1,om,by go_num,HB2⟩
    case measure=>simp[intOf];omega
def tR (t:Option (Nat × Int × Int)) (x:Int) (l:List Op3):Bool × List Op3 :=
 match t with
 | none=>(decide (x=0),l)
 | some (k,lo,hi)=>(decide (lo≤x) && decide (x≤hi),setN l k x)
theorem Vl (e:Ent) (d:Int):tR (dT e) d e.args=(dOk e d,oP e d):=by
 unfold dT dOk oP tR;rcases fJ e with _|k
 · rfl
 · simp[bM]
theorem Vk (e:Ent) (n:Int) (l:List Op3):tR (nT e) n l=(nOk e n,qT e l n):=by
 unfold nT nOk qT tR;rcases h:fM e with _|⟨k,c⟩
 · rfl
 · rcases fE h with rfl|rfl|rfl<;>simp[bM,cO]
theorem yG (t:Option (Nat × Int × Int)) (x:Int) (l:List Op3):(tR t x l).2.length=l.length:=by
 unfold tR;split
 · rfl
 · exact xT _ _ _
theorem Pc (v f:Value) (p x:Int) (b:Nat) (w:World) (hv:v=.agg #[p,f]) (hf:f=.nilFunc∨∃ fn b1 b2,f=.func (.func fn) #[] #[.pointer (some ⟨b1,0,none⟩),.pointer (some ⟨b2,0,none⟩)]) :
 Calls prog 231 #[v,.bool false,x,.pointer b] w fun e w'=>e=.returned (.bool (decide (x=0)))∧Below w w w':=by
 subst hv;have hx:(x == 0)=decide (x=0):=by by_cases h:x=0<;>simp[h]
 obtain⟨R,hR⟩:∃ R,decide (x=0)=R:=⟨_,rfl⟩;rw[hR] at hx ⊢;clear hR;rcases hf with rfl|⟨fn,b1,b2,rfl⟩
 · go_enter func231,ntmps231
   go_wp2_with fail
   go_ret;exact⟨rfl,bl⟩
 · go_enter func231,ntmps231
   go_wp2_with fail
   go_ret;exact⟨rfl,bl⟩
theorem Is (B:Nat) (lo hi x:Int) (f:Value) (k b base:Nat) (m:List UInt8) (v:Value) (l:List Op3) (o:Op3) (w:World) (hf:InF w B lo hi f) (hvB:∀ q,v.ownBlock=some q→q<B) (hb:w.heap[b]? = some (.cells #[m,v] 53 (0,0))) (hr:ORow w base v l.length (opc l)) (hbb:v.ownBlock≠some b) (hl:l.length≤1000) (ho:l[k]? = some o) :
 Calls prog 231 #[.agg #[k,f],.bool true,x,.pointer b] w fun e w'=>e=.returned (.bool (decide (lo≤x) && decide (x≤hi)))∧w'.heap[b]? = some (.cells #[m,v] 53 (0,0))∧ORow w' base v l.length (opc (l.set k (o.1,o.2.1,x)))∧w.grownBy w' v.ownBlock:=by
 obtain⟨b1,b2,rfl,hB1,hB2,hl1,hl2,c1,c2⟩:=hf;have hlt:k<l.length:=(Qd.1 ho).1;have HSET:=Hh hr;obtain⟨g,off,c,hoff,rfl,_,hg0,hg1,hh⟩:=hr.op (by rintro rfl;exact absurd hlt (Qw _))
 have HOFF:=Hh hoff;clear hoff;have hgB:=hvB g rfl;have hn1:b1≠g:=om
 have hn2:b2≠g:=om
 have hn3:=hn1.symm;have hn4:=hn2.symm;have hbg:b≠g:=fun e=>hbb (congrArg some e.symm);have hgb:g≠b:=hbg.symm;have HS2:=Hh (ORow.setN (m:=x) HOFF.out HSET.out ho);obtain⟨k0,k1,k2,f0,f1,f2⟩:=hh k o ho;obtain⟨t0,t1,s0,s1⟩:=aL hb;have hbl:=aA hb;have hi0:(0:Int)≤(k:Int):=om
 have hi1:(k:Int)<(l.length:Int):=om
 obtain⟨R,hR⟩:∃ R,(decide (lo≤x) && decide (x≤hi))=R:=⟨_,rfl⟩;rw[hR];have HIN:Hid (∀ W:World,W.cell? b1=some (.int .i64 lo)→W.cell? b2=some (.int .i64 hi)→Calls prog 287 #[x,.pointer b1,.pointer b2] W fun e w'=>e=.returned (.bool R)∧Below W W w'):=Hh (fun W h1 h2=>hR ▸ wS x lo hi b1 b2 W h1 h2);have HB:=Hh hb;clear hh hR hb hr hvB hbb HSET;go_enter func231,ntmps231
 go_wp2_with fail
 have e1:((w.setCell ⟨g,off+k*3+2,none⟩ x).alloc (.cells #[k,.func (.func 287) #[] #[.pointer b1,.pointer b2]] 291)).cell? b1=some (.int .i64 lo):=by simp[go_sem,c1,hl1]
 have e2:((w.setCell ⟨g,off+k*3+2,none⟩ x).alloc (.cells #[k,.func (.func 287) #[] #[.pointer b1,.pointer b2]] 291)).cell? b2=some (.int .i64 hi):=by simp[go_sem,c2,hl2]
 refine (HIN.out _ e1 e2).mono ?_;rintro e w2 ⟨rfl,hb2⟩;have HB2:=Hh hb2;clear hb2 e1 e2;go_wp2_with fail
 go_ret;have hbx:=aE (o':=(.cells #[k,.func (.func 287) #[] #[.pointer b1,.pointer b2]] 291)) (aD (i:=off+k*3+2) (v:=.int .i64 x) HB.out hbg);refine⟨rfl,aB hbx HB2.out (aA hbx),ORow.below (ORow.below HS2.out (br.alloc lr (.cells #[k,.func (.func 287) #[] #[.pointer b1,.pointer b2]] 291))) HB2.out,?_⟩;have h2:=HB2.out;refine⟨h2.os,h2.tape,h2.output,Qn (by simp[go_sem]) h2.size,fun q hq hne=>?_⟩;rw[h2.block q (by simp[go_sem];omega),Below.heap_alloc _ _ _ (by simp[go_sem];omega)];exact Below.heap_setCell _ ⟨g,off+k*3+2,none⟩ _ _ (fun e=>hne (by rw[e];rfl))
theorem InF.below {w w':World} {b:Nat} {lo hi:Int} {f:Value} (h:InF w b lo hi f) (hb:Below w w w'):InF w' b lo hi f:=by
 obtain⟨b1,b2,hf,h1,h2,h3,h4,c1,c2⟩:=h;exact⟨b1,b2,hf,h1,h2,Qj h3 hb.size,Qj h4 hb.size,(hb.cell (p:=b1) h3).trans c1,(hb.cell (p:=b2) h4).trans c2⟩
theorem iC {w w':World} {row:Option Nat} {k:Nat} {o:Obj} (h:w.grownBy w' row) (hk:w.heap[k]? = some o) (hne:some k≠row):w'.heap[k]? = some o:=(h.block k (aA hk) hne).trans hk
theorem vI (B:Nat) (t:Option (Nat × Int × Int)) (k x:Int) (f:Value) (there:Bool) (b base:Nat) (m:List UInt8) (v:Value) (l:List Op3) (w:World) (ht:Fl t w k f there l.length) (hB:∀ lo hi,(t.map (·.2))=some (lo,hi)→InF w B lo hi f) (hvB:∀ q,v.ownBlock=some q→q<B) (hb:w.heap[b]? = some (.cells #[m,v] 53 (0,0))) (hr:ORow w base v l.length (opc l)) (hbb:v.ownBlock≠some b) (hl:l.length≤1000) :
 Calls prog 231 #[.agg #[.int .i64 k,f],.bool there,x,.pointer b] w fun e w'=>e=.returned (.bool (tR t x l).1)∧w'.heap[b]? = some (.cells #[m,v] 53 (0,0))∧ORow w' base v l.length (opc (tR t x l).2)∧w.grownBy w' v.ownBlock:=by
 cases t with
 | none =>
   obtain⟨rfl,hf⟩:=ht;refine (Pc _ f k x b w rfl hf).mono ?_;rintro e w' ⟨rfl,hbel⟩;exact⟨rfl,aB hb hbel (aA hb),hr.below hbel,⟨hbel.os,hbel.tape,hbel.output,hbel.size,fun k hk _=>hbel.block k hk⟩⟩
 | some y =>
   obtain⟨k',lo,hi⟩:=y;obtain⟨rfl,rfl,hin,hk⟩:=ht;obtain⟨o,ho⟩:∃ o,l[k']? = some o:=⟨_,Qb hk⟩;have hs:setN l k' x=l.set k' (o.1,o.2.1,x):=by unfold setN;rw[ho]
   have hT:tR (some (k',lo,hi)) x l=(decide (lo≤x) && decide (x≤hi),l.set k' (o.1,o.2.1,x)):=by unfold tR;dsimp only;rw[hs]
   rw[hT];exact Is B lo hi x f k' b base m v l o w (hB lo hi rfl) hvB hb hr hbb hl ho
theorem InF.kbk {w w':World} {b k:Nat} {lo hi:Int} {f:Value} (h:InF w b lo hi f) (hb:Kb k w w') (hk:k<b):InF w' b lo hi f:=by
 obtain⟨b1,b2,hf,h1,h2,h3,h4,c1,c2⟩:=h;exact⟨b1,b2,hf,h1,h2,Qj h3 hb.size,Qj h4 hb.size,(hb.cell (p:=b1) h3 (by show b1≠k;omega)).trans c1,(hb.cell (p:=b2) h4 (by show b2≠k;omega)).trans c2⟩
theorem zP (E:Ent) (ve:Value) (d n:Int) (w:World) (he:Row w ve E.args.length (opc E.args)) (hel:E.args.length≤1000) (hem:E.mn.length≤1000) (hup:cH ⟨E.mn.toArray⟩=⟨E.mn.toArray⟩) :
 Calls prog 197 #[cP E ve,d,n] w (oW (bU E d n) w):=by
 have hdis:=fun X (hb:Below w w X)=>mS E ve X (he.below hb) hel;have hnum:=fun X (hb:Below w w X)=>nY E ve X (he.below hb) hel;unfold Ea at hnum;have hdt:=fun X f h=>vL E X f h;have hnt:=fun X f h1 h2=>uS E X f h1 h2;have hmk:=fun X (hb:Below w w X)=>lF ⟨E.mn.toArray⟩ ve E.args X (by show E.mn.toArray.size≤maxLen;rw[Qx];unfold maxLen;omega) (he.below hb) om;rw[hup] at hmk;have hcd:=fun X B k f t b base v'=>vI B (dT E) k d f t b base E.mn v' E.args X;rw[Vl] at hcd;have hcn:=fun X B k f t b base v'=>vI B (nT E) k n f t b base E.mn v' (oP E d) X;rw[Vk] at hcn;have hdl:(oP E d).length=E.args.length:=by have:=yG (dT E) d E.args;rw[Vl] at this;exact this
 have hnl:(qT E (oP E d) n).length=E.args.length:=by have:=yG (nT E) n (oP E d);rw[Vk] at this;exact this.trans hdl
 have hres:bU E d n=if nOk E n && dOk E d then some (E.mn,qT E (oP E d) n) else none:=rfl
 have hdtB:∀ lo hi,(dT E).map (·.2)=some (lo,hi)→lo=-128∧hi=127:=fun lo hi h=>by
  unfold dT at h;cases hd:fJ E<;>rw[hd] at h<;>simp at h
  exact⟨h.1.symm,h.2.symm⟩
 have hntB:∀ lo hi,(nT E).map (·.2)=some (lo,hi)→(cW E.extra E.args).2=some (lo,hi):=fun lo hi h=>by
  unfold nT at h;cases hd:fM E with
  | none=>rw[hd] at h;cases h
  | some x =>
    obtain⟨k,c⟩:=x;rw[hd] at h;rw[(Es hd).2.1];simp at h
    exact congrArg some (Prod.ext h.1 h.2)
 obtain⟨R,hR⟩:∃ R,bU E d n=R:=⟨_,rfl⟩;rw[hR];rw[hres] at hR;dsimp only at hcd hcn;generalize dK [5] E.args=kd at *;generalize (decide ((100:UInt8)∈E.extra) && decide (0≤kd))=td at *;generalize (cW E.extra E.args)=ns at *;generalize (ns.2.isSome && decide (0≤ns.1))=tn at *;generalize ns.1=kn at *;generalize hl1:oP E d=l1 at *;rw[hdl] at hcn;generalize hl2:qT E l1 n=l2 at *;generalize nOk E n=nb at *;generalize dOk E d=db at *;generalize dT E=DT at *;generalize nT E=NT at *;clear hl1 hl2 hres;obtain⟨page,op,mn,args,ex,al⟩:=E;dsimp only at he hel hem hup hdl hnl hmk hcd hcn hdt hnt hR;have HR:=Hh hR;clear hR;obtain⟨ae,ce,rfl,_,_⟩:=he;have HDIS:=Hh hdis;have HNUM:=Hh hnum;have HDT:=Hh hdt;have HNT:=Hh hnt;have HMK:=Hh hmk;have HCD:=Hh hcd;have HCN:=Hh hcn;have HDL:=Hh hdl;have HNL:=Hh hnl;have HDB:=Hh hdtB;have HNB:=Hh hntB;clear hdis hnum hdt hnt hmk hcd hcn hdl hnl hdtB hntB hup;show Calls prog 197 #[.agg #[page,.int .u8 op,mn,.slice ae args.length ce,ex,.bool al],d,n] w _
 go_enter func197,ntmps197
 go_wp2_with fail
 generalize hW0:((w.alloc _).alloc _)=W0;have h0:W0.heap[w.heap.size]? = some (.cells #[page,.int .u8 op,mn,.slice ae args.length ce,ex,.bool al] 211 (0,0)):=by rw[←hW0];exact aE (aF _ _)
 have h1:W0.heap[w.heap.size+1]? = some (.cells #[(),zz] 53 (0,0)):=by
  rw[←hW0]
  have:=aF (w.alloc (.cells #[page,.int .u8 op,mn,.slice ae args.length ce,ex,.bool al] 211)) (.cells #[(),zz] 53)
  rwa [Qa] at this
 have HBW:=Hh (show Below w w W0 by rw[←hW0];exact bl);have hsz0:W0.heap.size=w.heap.size+1+1:=by rw[←hW0];simp
 have H0:=Hh h0;have H1:=Hh h1;have HSZ:=Hh hsz0;clear hW0 h0 h1 hsz0;obtain⟨⟨x0,x1,x2,x3,x4,x5⟩,_⟩:=aN H0.out;have hl0:=aA H0.out;go_wp2_with fail
 refine (HMK.out _ HBW.out).mono ?_;rintro e w2 ⟨v2,rfl,hown2,hb2⟩;obtain⟨a2,c2,rfl⟩:=aI hown2;have hlt2:∀ q,(Value.slice a2 args.length c2).ownBlock=some q→W0.heap.size≤q∧q<w2.heap.size:=fun q hq=>hown2.lt q hq;obtain⟨W3,hW3⟩:∃ W3,w2.alloc (.cells #[mn,.slice a2 args.length c2] 53)=W3:=⟨_,rfl⟩;have hal:Below w2 w2 W3:=by rw[←hW3];exact bl
 have hr3:W3.heap[w2.heap.size]? = some (.cells #[mn,.slice a2 args.length c2] 53 (0,0)):=by rw[←hW3];exact aF _ _
 have hrow3:=(show ORow _ _ _ _ _ from hown2).below hal;have h03:=aB (aB H0.out hb2 (aA H0.out)) hal (Qj (aA H0.out) hb2.size);have h13:=aB (aB H1.out hb2 (aA H1.out)) hal (Qj (aA H1.out) hb2.size);have hbw3:=(HBW.out.trans (hb2.mono HBW.out.size)).trans (hal.mono (Qn HBW.out.size hb2.size));have hsb:W0.heap.size≤w2.heap.size:=hb2.size;obtain⟨b,hbe⟩:∃ b,w2.heap.size=b:=⟨_,rfl⟩;clear hb2 hal hown2 x0 x1 x2 x3 x4 x5;rw[hbe] at hr3 hlt2 hsb;have hne:(Value.slice a2 args.length c2).ownBlock≠some b:=fun e=>by have:=(hlt2 b e).2;omega
 have hlb:=aA hr3;have hl3:=aA h03;obtain⟨⟨x0,x1,x2,x3,x4,x5⟩,_⟩:=aN h03;have H03:=Hh h03;have H13:=Hh h13;have HR3:=Hh hr3;have HROW3:=Hh hrow3;have HBW3:=Hh hbw3;have HLT2:=Hh hlt2;have HNE:=Hh hne;have HSB:=Hh hsb;clear h03 h13 hr3 hrow3 hbw3 hlt2 hne hsb;go_wp2_with fail
 clear hW3 hbe;refine (HDIS.out _ HBW3.out).mono ?_;rintro e w4 ⟨f,rfl,hin,hb4⟩;have hin':=hin;obtain⟨bb1,bb2,rfl,_⟩:=hin';obtain⟨W5,hW5⟩:∃ W5,w4.alloc (.cells #[kd,(.func (.func 287) #[] #[.pointer bb1,.pointer bb2])] 291)=W5:=⟨_,rfl⟩;have hal:Below w4 w4 W5:=by rw[←hW5];exact bl
 have hb5:Below W3 W3 W5:=hb4.trans (hal.mono hb4.size);have hv5:W5.heap[w4.heap.size]? = some (.cells #[kd,(.func (.func 287) #[] #[.pointer bb1,.pointer bb2])] 291 (0,0)):=by rw[←hW5];exact aF _ _
 have hin5:=hin.below hal;have hcd5:=HCD.out W5 W3 _ _ td b W0 (.slice a2 args.length c2) (HDT.out W5 _ (hin5.mono (Qi _))) (fun lo hi h=>by obtain⟨rfl,rfl⟩:=HDB.out lo hi h;exact hin5) (fun q hq=>by have:=(HLT2.out q hq).2;omega) (aB HR3.out hb5 hlb) (HROW3.out.below hb5) HNE.out hel
 have HCD5:=Hh hcd5;have H05:=Hh (aB H03.out hb5 hl3);have H15:=Hh (aB H13.out hb5 (aA H13.out));have HV5:=Hh hv5;have HB5:=Hh (HBW3.out.trans (hb5.mono HBW3.out.size));have hs45:W3.heap.size≤w4.heap.size:=hb4.size;clear hin hin5 hcd5 hv5 hb5 hal hb4 x0 x1 x2 x3 x4 x5;obtain⟨y0,y1,_,_⟩:=aL HV5.out;have hlv:=aA HV5.out;go_wp2_with fail
 clear hW5 y0 y1;refine HCD5.out.mono ?_;rintro e w6 ⟨rfl,hr6,hrow6,hg6⟩;have hown:∀ q,some q=(Value.slice a2 args.length c2).ownBlock→w.heap.size+1+1≤q∧q<W3.heap.size:=fun q hq=>by
  have h1:=HLT2.out q hq.symm;have h2:=HSZ.out;omega
 have HOWN:=Hh hown;have h06:=iC hg6 H05.out (fun e=>by have:=hown _ e;omega);have h16:=iC hg6 H15.out (fun e=>by have:=hown _ e;omega);have hv6:=iC hg6 HV5.out (fun e=>by have:=hown _ e;omega);have HB6:=Hh (HB5.out.grown hg6 HB5.out.size (fun q hq=>by have:=hown q hq.symm;omega));have hs56:=hg6.size;obtain⟨⟨x0,x1,x2,x3,x4,x5⟩,_⟩:=aN h06;have hl6:=aA h06;have H06:=Hh h06;have H16:=Hh h16;have HV6:=Hh hv6;have HR6:=Hh hr6;have HROW6:=Hh hrow6;clear h06 h16 hv6 hr6 hrow6 hg6 hown;go_wp2_with fail
 refine (HNUM.out _ HB6.out).mono ?_;rintro e w7 ⟨f2,rfl,hf1,hf2,hb7⟩;have hff:f2=.nilFunc∨∃ b1 b2,f2=.func (.func 287) #[] #[.pointer (some ⟨b1,0,none⟩),.pointer (some ⟨b2,0,none⟩)]:=by
  rcases hn2:ns.2 with _|⟨lo,hi⟩
  · exact .inl (hf2 hn2)
  · obtain⟨b1,b2,rfl,_⟩:=hf1 lo hi hn2;exact .inr ⟨b1,b2,rfl⟩
 have hv7:=aB HV6.out hb7 (aA HV6.out);obtain⟨y0,y1,s0,s1⟩:=aL hv7;have hlv7:=aA hv7;have hsw:w4.heap.size<w6.heap.size:=aA HV6.out;have HF1:=Hh hf1;have HF2:=Hh hf2;have HB7:=Hh hb7;have HV7:=Hh hv7;clear hf1 hf2 hb7 hv7 x0 x1 x2 x3 x4 x5;have hB78:=HB7.out;rcases hff with rfl|⟨b1,b2,rfl⟩;all_goals
  go_wp2_with fail
  generalize hW8:((w7.setCell _ _).setCell _ _)=W8;have hk8:Kb w4 w7 W8:=by rw[←hW8];exact Kb.setCell (Kb.setCell (Kb.refl _ _) 0 _) 1 _
  have hs67:=hB78.size;have hob:∀ q,some q=(Value.slice a2 args.length c2).ownBlock→q<w4.heap.size:=fun q hq=>by have:=(HOWN.out q hq).2;omega
  have h17:=aB H16.out hB78 (aA H16.out);have hr7:=aB HR6.out hB78 (aA HR6.out);have h18:=(hk8.block _ (aA h17) (by have:=aA H1.out;omega)).trans h17;have hr8:=(hk8.block _ (aA hr7) om).trans hr7;have hrow8:=(HROW6.out.below hB78).kbo hk8 (fun e=>by have:=hob _ e.symm;omega);have hb8:Below w w W8:=bS (HB6.out.trans (hB78.mono HB6.out.size)) (Qn HB6.out.size hs67) hk8 (by have:=aA H0.out;omega);have hcn8:=HCN.out W8 w6 kn _ tn b W0 (.slice a2 args.length c2) (HNT.out W8 _ (fun lo hi q=>((HF1.out lo hi q).kbk hk8 hsw).mono (Qi _)) (fun h=>by first|rfl|exact HF2.out h|exact absurd h HF2.out)) (fun lo hi h=>(HF1.out lo hi (HNB.out lo hi h)).kbk hk8 hsw) (fun q hq=>by have:=hob q hq.symm;omega) hr8 hrow8 HNE.out hel;have HCN8:=Hh hcn8;have H18:=Hh h18;have HB8:=Hh hb8;have hs78:=hk8.size;clear hW8 hk8 h17 hr7 h18 hr8 hrow8 hb8 hcn8 y0 y1 s0 s1;refine HCN8.out.mono ?_;rintro e w9 ⟨rfl,hr9,hrow9,hg9⟩;have h19:=iC hg9 H18.out (fun e=>by have:=HOWN.out _ e;omega);have HB9:=Hh (HB8.out.grown hg9 HB8.out.size (fun q hq=>by have:=HOWN.out q hq.symm;omega));obtain⟨r0,r1,z0,z1⟩:=aL h19;obtain⟨q0,q1,_,_⟩:=aL hr9;have hl9:=aA h19;have hl9b:=aA hr9;have HROW9:=Hh hrow9;have hlo:=aA H1.out;clear h19 hr9 hrow9 hg9 hob hs67 hs78;cases nb<;>cases db
  case true.true =>
   obtain rfl:R=some (mn,l2):=by rw[←HR.out];rfl
   go_wp2_with fail
   refine bodyPost_ret (v:=iO (some (mn,l2)) (.slice a2 args.length c2)) (by simp[results,results197,go_sem,iO,r0,r1]) rfl ⟨_,rfl,fun i hi=>?_,?_⟩
   · cases hi
     have h1:=HROW9.out;have h2:=(h1.kbo (Kb.setCell (Kb.setCell (Kb.refl (w.heap.size+1) w9) 0 (.string ⟨mn.toArray⟩)) 1 (.slice a2 args.length c2)) (fun e=>by have:=HOWN.out _ e.symm;omega)).mono (b':=w.heap.size) (by have:=HSZ.out;omega);show ORow _ _ _ l2.length _
     rw[HNL.out];exact h2
   · exact (HB9.out.setCell (p:=⟨w+1,0,none⟩) (by show w.heap.size≤w.heap.size+1;omega) _).setCell (p:=⟨w+1,1,none⟩) (by show w.heap.size≤w.heap.size+1;omega) _
  all_goals
   obtain rfl:R=none:=by rw[←HR.out];rfl
   go_wp2_with fail
   refine bodyPost_ret (v:=iO none (.slice none 0 0)) (by simp[results,results197,go_sem,iO,r0,r1]) rfl ⟨_,rfl,fun i hi=>(by cases hi),?_⟩;exact (HB9.out.setCell (p:=⟨w+1,0,none⟩) (by show w.heap.size≤w.heap.size+1;omega) _).setCell (p:=⟨w+1,1,none⟩) (by show w.heap.size≤w.heap.size+1;omega) _
theorem Mq:∀ p:Fin 7,∀ op:Fin 256,(atP p.val op.val).2=2→p.val<5∧cR p.val (UInt8.ofNat op.val)<7∧pfx p.val++[UInt8.ofNat op.val]=pfx (cR p.val (UInt8.ofNat op.val))∧(p.val=0→1≤cR p.val (UInt8.ofNat op.val)∧cR p.val (UInt8.ofNat op.val)≤4)∧(p.val≠0→p.val≤4∧5≤cR p.val (UInt8.ofNat op.val)):=by decide +kernel
theorem Mp {p:Nat} (hp:p<7) (op:UInt8) (h:(atP p op.toNat).2=2):p<5∧cR p op<7∧pfx p++[op]=pfx (cR p op)∧(p=0→1≤cR p op∧cR p op≤4)∧(p≠0→p≤4∧5≤cR p op):=by
 have:=Mq ⟨p,hp⟩ ⟨op.toNat,op.toNat_lt⟩ h
 simpa using this
def fOf (p:Nat):Nat:=if p=0 then 3 else if p≤4 then 2 else 1
theorem Pd {p:Nat} (hp:p<7) (op:UInt8) (h:(atP p op.toNat).2=2):fOf p=fOf (cR p op)+1:=by
 obtain⟨h1,h2,h3,h4,h5⟩:=Mp hp op h;unfold fOf;by_cases h0:p=0
 · have:=h4 h0
   rw[if_pos h0,if_neg om,if_pos om]
 · have:=h5 h0
   rw[if_neg h0,if_pos om,if_neg om,if_neg om]
theorem Tl (p:Nat):∃ f,fOf p=f+1:=by unfold fOf;split;exact⟨2,rfl⟩;split;exact⟨1,rfl⟩;exact⟨0,rfl⟩
def Fm (D:Nat) (vb:Value) (w:World) (r:Option It) (x:Ending) (w':World):Prop :=
 match r with
 | some it=>∃ vr va,x=.returned (itV it vr va)∧ItAt w.heap.size it vr va w'∧(∃ (at' d n:Int) (vp:Value) (e:Nat→Value),w'.heap[D]? = some (fI vb at' vp e d n))∧Kb D w w'
 | none=>x=.panicked Ni∧(∃ (at' d n:Int) (vp:Value) (e:Nat→Value),w'.heap[D]? = some (fI vb at' vp e d n))∧Kb D w w'
def aQf (w:World) (D:Nat):Nat:=match w.cell? ⟨D,1,none⟩ with|some (.int _ n)=>n.toNat|_=>0
theorem Ag {w:World} {D:Nat} {vb vp:Value} {e:Nat→Value} {at':Nat} {d n:Int} (h:w.heap[D]? = some (fI vb at' vp e d n)):aQf w D=at':=by
 unfold aQf;rw[aC h 1];simp
structure ItmD (D:Nat) (vb:Value) (w:World) (p at':Nat) (vp:Value) (e:Nat→Value) (d n:Int) (W:World):Prop where
 dec:W.heap[D]? = some (fI vb at' vp e d n)
 own:W.ownsRow (w.heap.size+1) 5 1 vp (pfx p).length (aT (pfx p))
 box:W.heap[w.heap.size]? = some (.cells #[.int .i64 0,.slice none 0 0,.string ⟨#[]⟩,.slice none 0 0,.bool false] 55 (0,0))
 kb:Kb D w W
theorem ItmD.below {D:Nat} {vb:Value} {w W W':World} {p at':Nat} {vp:Value} {e:Nat→Value} {d n:Int} (h:ItmD D vb w p at' vp e d n W) (hb:Below W W W'):ItmD D vb w p at' vp e d n W' :=
 ⟨aB h.dec hb (aA h.dec),Kb.owns h.own (Kb.of_below (b:=W.heap.size) hb) (fun e=>by have:=(h.own.lt _ e).2;omega),aB h.box hb (aA h.box),h.kb.trans (Kb.of_below hb)⟩
theorem ItmD.kbd {D:Nat} {vb:Value} {w W W':World} {p at1 at':Nat} {vp:Value} {e e':Nat→Value} {d d' n n':Int} (h:ItmD D vb w p at1 vp e d n W) (hk:Kb D W W') (hd:W'.heap[D]? = some (fI vb at' vp e' d' n')) (hD:D<w):ItmD D vb w p at' vp e' d' n' W' :=
 ⟨hd,Kb.owns h.own hk (fun e=>by have:=(h.own.lt _ e).1;omega),(hk.block _ (aA h.box) om).trans h.box,h.kb.trans hk⟩
theorem Ej (D:Nat) (b:List UInt8) (vb vp:Value) (e:Nat→Value) (at':Int) (d n:Int) (k:Nat) (x:Int) (hx:x=k) (w:World) (hD:w.heap[D]? = some (fI vb at' vp e d n)) (hv:Row w vb b.length (aT b)) (hk0:0<k) (hk:k≤b.length) (hl:b.length≤1000000) :
 Calls prog 152 #[.pointer D,x] w fun r w'=>∃ v,r=.returned v∧w'.ownsRow w 5 1 v k (aT (b.take k))∧Below w w w':=hx ▸ qX D b vb vp e at' d n k w hD hv hk0 hk hl
theorem Tp:∀ p:Fin 7,∀ op:Fin 256,(match (atP p.val op.val).1 with|some e=>decide (cH ⟨e.mn.toArray⟩=⟨e.mn.toArray⟩) && decide (e.mn.length≤100) && decide (e.args.length≤3) && decide (e.extra.length≤3)|none=>true)=true:=by decide +kernel
theorem Pi {p:Nat} {op:UInt8} {e:Ent} (hp:p<7) (h:(atP p op.toNat).1=some e):cH ⟨e.mn.toArray⟩=⟨e.mn.toArray⟩∧e.mn.length≤100∧e.args.length≤3∧e.extra.length≤3:=by
 have:=Tp ⟨p,hp⟩ ⟨op.toNat,op.toNat_lt⟩
 simp only[h,Qe,Qf] at this;exact⟨this.1.1.1,this.1.1.2,this.1.2,this.2⟩
theorem zR {p:Nat} {op:UInt8} {e:Ent} (hp:p<5) (h:(atP p op.toNat).1=some e):∀ c∈e.extra,c=100∨c=101∨c=110∨c=119:=by
 have hk:=oC op (show p<7 by omega);unfold nH at hk;simp only[Qe] at hk
 have:=hk.2
 rw[h] at this;simp only[show ¬ 5≤p by omega,if_false,Qf] at this
 simp only[Xg,Xp,or_false] at this;rcases this with h|h|h|h|h|h<;>rw[h]<;>decide
theorem iA:∀ (ls b:List UInt8) (d n:Int) (x:Int × Int × List UInt8),dZ ls b d n=some x→x.2.2.length≤b.length
 | [],b,d,n,x,h=>by simp[dZ] at h;subst h;exact Qk _
 | c::cs,b,d,n,x,h=>by
   unfold dZ at h;split at h
   · rcases b with _|⟨y,b⟩
     · cases h
     · have:=iA cs b _ _ x h;simp;omega
   split at h
   · rcases b with _|⟨y,b⟩
     · cases h
     · have:=iA cs b _ _ x h;simp;omega
   split at h
   · rcases b with _|⟨y,b⟩
     · cases h
     · have:=iA cs b _ _ x h;simp;omega
   split at h
   · rcases b with _|⟨y,_|⟨z,b⟩⟩
     · cases h
     · cases h
     · have:=iA cs b _ _ x h;simp;omega
   · exact iA cs b _ _ x h
theorem Ei {D B:Nat} {w w':World} {v:Value} {n:Nat} {xs:List Value} (h:WRow w B v n xs) (hk:Kb D w w') (hD:D<B):WRow w' B v n xs:=by
 obtain⟨a,cap,hv,hn,h⟩:=h;refine⟨a,cap,hv,hn,fun hx=>?_⟩;obtain⟨g,o,ha,h0,hg,hc,hf⟩:=h hx;have hgk:g≠D:=om
 exact⟨g,o,ha,h0,Qj hg hk.size,fun j hj=>(hk.cell (p:=⟨g,o+j,none⟩) hg hgk).trans (hc j hj),fun j hj=>(hk.frozen (p:=⟨g,o+j,none⟩) hg hgk).trans (hf j hj)⟩
theorem oL {o:Option aY} {w w':World} {x:Ending} (h:oW o w x w'):∃ a c b,x=.returned (.tuple #[.agg #[.string ⟨(bI o).1.toArray⟩,.slice a (bI o).2.length c],.bool b])∧ORow w' w (.slice a (bI o).2.length c) (bI o).2.length (opc (bI o).2)∧Below w w w':=by
 obtain⟨v,rfl,h1,h2⟩:=h;rcases o with _|i
 · exact⟨none,0,false,rfl,ORow.nil _ _,h2⟩
 · have h3:=h1 i rfl;obtain⟨a,c,rfl⟩:=h3.slice;exact⟨a,c,true,rfl,h3,h2⟩
theorem kS {W:World} {D k:Nat} {vb vp:Value} {e:Nat→Value} {at' d n:Int} {x0 x1 x2 x3 x4 x5:Value} {T:TypeId} (h:W.heap[D]? = some (fI vb at' vp e d n)) (g:W.heap[k]? = some (.cells #[x0,x1,x2,x3,x4,x5] T (0,0))) :
 (W.cell? ⟨D,9,none⟩=some (.int .i64 d)∧W.cell? ⟨D,10,none⟩=some (.int .i64 n))∧(W.cell? k=some x0∧W.cell? ⟨k,1,none⟩=some x1∧W.cell? ⟨k,2,none⟩=some x2∧W.cell? ⟨k,3,none⟩=some x3∧W.cell? ⟨k,4,none⟩=some x4∧W.cell? ⟨k,5,none⟩=some x5):=⟨⟨aC h 9,aC h 10⟩,(aN g).1⟩
theorem vE {W:World} {D k g:Nat} {vb vp:Value} {e:Nat→Value} {at' d n:Int} {x0 x1 x2 x3 x4 x5 y0 y1:Value} {T U:TypeId} (h:W.heap[D]? = some (fI vb at' vp e d n)) (hg:W.heap[k]? = some (.cells #[x0,x1,x2,x3,x4,x5] T (0,0))) (hb:W.heap[g]? = some (.cells #[y0,y1] U (0,0))) :
 W.cell? ⟨D,1,none⟩=some (.int .i64 at')∧W.cell? ⟨k,5,none⟩=some x5∧W.cell? g=some y0∧W.cell? ⟨g,1,none⟩=some y1:=⟨aC h 1,(aN hg).1.2.2.2.2.2,aC hb 0,aC hb 1⟩
def eV (pg op':Int) (mn:ByteArray) (v:Value) (ex:ByteArray) (al:Bool):Nat→Value:=fun k=>match k with|0=>.int .i64 pg|1=>.int .u8 op' | 2=>.string mn|3=>v|4=>.string ex|_=>.bool al
theorem Ke {p:Prop} (h:p:=by
 rw[←hW5];exact Kb.setCell (Kb.setCell (Kb.setCell (Kb.setCell (Kb.setCell (Kb.setCell (Kb.refl _ _) 3 _) 4 _) 5 _) 6 _) 7 _) 8 _):p:=h
theorem Od (D:Nat) (b:List UInt8) (vb:Value) (e:Nat→Value) (w:World) (hD:w.heap[D]? = some (fI vb 0 (.slice none 0 0) e 0 0)) (hv:Row w vb b.length (aT b)) (hl:b.length≤100000) (hne:vb.ownBlock≠some D) (hT:∀ W,Kb D w W→TabsA W) :
 Calls prog 153 #[.pointer D] w (Fm D vb w (dW 3 0 b b)):=by
 obtain⟨i0,hi,hz0,hz1,hz2⟩:=info_parts Tryz.infoByte;obtain⟨R,hR⟩:∃ R,dW 3 0 b b=R:=⟨_,rfl⟩;rw[hR];have hlD:=aA hD;have HD:=Hh hD;have HV:=Hh hv;have HNE:=Hh hne;have HR:=Hh hR;have HT:=Hh hT;clear hD hv hne hR hT;go_enter func153,ntmps153
 go_wp2_with fail
 generalize hW0:(w.alloc _)=W0;have hx0:ItmD D vb w 0 0 (.slice none 0 0) e 0 0 W0:=by
  rw[←hW0];exact⟨aE HD.out,Xa _ _ _ _,aF _ _,Kb.alloc (Kb.refl _ _) _⟩
 have HX0:=Hh hx0;clear hW0 hx0;go_loopw [3,4,5,6,7,8,9,10] (fun _ _ _ _ _ _ _ _ wr=>∃ (p at':Nat) (vp:Value) (e':Nat→Value),p<7∧at'≤b.length∧Hid (ItmD D vb w p at' vp e' 0 0 wr)∧Hid (dW (fOf p) p b (b.drop at')=R)) (fun _ _ _ _ _ _ _ _ wr=>b.length - aQf wr D)
 case atStart=>exact⟨0,0,_,e,om,om,HX0,HR⟩
 case round =>
  obtain⟨p,at',vp,e',hp,hat,HX,HRR⟩:=hrel;obtain⟨f,hf⟩:=Tl p;have HRR2:=Hh (show dW (f+1) p b (b.drop at')=R by rw[←hf];exact HRR.out)
  have HF:=Hh hf;clear hf;have c2:=aC HX.out.dec 2;have hlr:=aA HX.out.dec;go_wp2_with fail
  refine (Br p hp vp _ (Row.of_owns HX.out.own)).mono ?_;rintro r w1 ⟨rfl,hb1⟩;have HX1:=Hh (HX.out.below hb1);clear hb1 c2 hlr;by_cases h5:5≤p
  focus
   have hp5:decide ((5:Int)≤(p:Int))=true:=by simp;omega
   go_wp2_with fail
   refine (vK D b vb vp e' at' 0 0 [100] (by intro c hc;simp at hc;exact .inl hc) w1 HX1.out.dec hat (dY HV.out HX1.out.kb HNE.out) om dc HNE.out).mono ?_;rintro r wb hres;rcases hb0:b[at']? with _|x0
   · have hdr:b.drop at'=[]:=Zj (List.getElem?_eq_none_iff.1 hb0);rw[hdr] at hres;obtain⟨rfl,⟨_,_,_,h1⟩,h2⟩:=hres;have hRn:R=none:=by
      rw[←HRR2.out,hdr];simp[dW,fO,h5]
     subst hRn;go_wp2_with fail
     exact⟨rfl,rfl,⟨_,_,_,_,_,h1⟩,HX1.out.kb.trans h2⟩
   have hlt0:at'<b.length:=(Qd.1 hb0).1;have hdr:=aCB hb0;rw[hdr] at hres;obtain⟨d,hd⟩:∃ d,sgn x0=d:=⟨_,rfl⟩;obtain⟨n,hn⟩:∃ n:Int,(0:Int)=n:=⟨_,rfl⟩;have hres2:Fn D b vb vp e' w1 (some (d,n,b.drop (at'+1))) r wb:=by rw[←hd,←hn];exact hres
   obtain⟨rfl,hdb,_,hkb⟩:=hres2;rw[show b.length - (b.drop (at'+1)).length=at'+1 by rw[Xm];omega] at hdb
   have HXB:=Hh (HX1.out.kbd hkb hdb hlD);have HDR:=Hh hdr;have HD0:=Hh hd;have HN0:=Hh hn;clear hres hdb hkb hdr hb0 hd hn;go_wp2_with fail
   by_cases hb:at'+1<b.length
   rotate_left
   · refine (mB D b vb vp e' (at'+1) d n _ HXB.out.dec (dY HV.out HXB.out.kb HNE.out) om).mono ?_;rintro r w2 ⟨rfl,hb2⟩;have HX2:=Hh (HXB.out.below hb2);clear hb2;have hRn:R=none:=by
      rw[←HRR2.out,HDR.out,show b.drop (at'+1)=[] from Zj om]
      simp[dW,fO,h5]
     subst hRn;go_wp2_with fail
     exact⟨rfl,rfl,⟨_,_,_,_,_,HX2.out.dec⟩,HX2.out.kb⟩
   obtain⟨x,hx⟩:∃ x,b[at'+1]? = some x:=⟨_,Qb hb⟩;have HBX:=Hh hx;clear hx;refine (fW D b vb vp e' (at'+1) d n x _ HXB.out.dec (dY HV.out HXB.out.kb HNE.out) HBX.out om HNE.out).mono ?_;rintro r w2 ⟨rfl,hd2,hk2⟩;have HX2:=Hh (HXB.out.kbd hk2 hd2 hlD);clear hd2 hk2;go_wp2_with fail
   obtain⟨E,hE⟩:=Vu x h5 hp;have hat':=Dw p x.toNat w2 hp x.toNat_lt (HT.out _ HX2.out.kb);unfold kU at hat';rw[hE] at hat';obtain⟨pg,op',mn,args,ex,al⟩:=E;simp only[Yy,cP] at hat';have HAT:=Hh hat';clear hat';have hRk:R=some ⟨1,b.take (at'+1+1),bI (bU ⟨pg,op',mn,args,ex,al⟩ d n),al⟩:=by
    have hr1:=HRR2.out;rw[HDR.out,aCB HBX.out] at hr1;rw[←hr1,←HD0.out,←HN0.out];simp only[dW,fO,h5,if_true,hE,lM,Yy];simp[show b.length - (b.length - (at'+1+1))=at'+1+1 by omega]
   obtain⟨k,hk⟩:∃ k,at'+1+1=k:=⟨_,rfl⟩;have hk1:1≤k:=om
   have hkl:k≤b.length:=om
   rw[hk] at hRk;have HRK:=Hh hRk;have hx2:=HX2.out;rw[hk] at hx2;have HXK:=Hh hx2;have HUP:=Hh (Pi hp (show (atP p x.toNat).1=some _ by rw[hE]))
   clear hRk hx2 hk hE;refine HAT.out.mono ?_;rintro r w3 ⟨v3,rfl,hrow3,hb3⟩;obtain⟨a3,n3,c3,rfl⟩:∃ a n c,v3=.slice a n c:=by obtain⟨a,c,rfl,_⟩:=hrow3;exact⟨_,_,_,rfl⟩
   obtain⟨W4,hW4⟩:∃ W4,w3.alloc (.cells #[pg,.int .u8 op',mn,.slice a3 n3 c3,ex,.bool al] 211)=W4:=⟨_,rfl⟩;have hal:Below w3 w3 W4:=by rw[←hW4];exact bl
   have HX4:=Hh ((HXK.out.below hb3).below hal);have HE4:=Hh (show W4.heap[w3.heap.size]? = some (.cells #[pg,.int .u8 op',mn,.slice a3 n3 c3,ex,.bool al] 211 (0,0)) by rw[←hW4];exact aF _ _)
   have HROW4:=Hh (hrow3.below hal);have hsz4:D<w3:=aA (HX2.out.below hb3).dec;have hsw4:w.heap.size<w3.heap.size:=aA (HX2.out.below hb3).box;clear hb3 hal hrow3;obtain⟨⟨k0,k1,k2,k3,k4,k5⟩,g0,g1,g2,g3,g4,g5⟩:=aN HE4.out;have f3:=aH HX4.out.dec 3;have f4:=aH HX4.out.dec 4;have f5:=aH HX4.out.dec 5;have f6:=aH HX4.out.dec 6;have f7:=aH HX4.out.dec 7;have f8:=aH HX4.out.dec 8;have c3':=aC HX4.out.dec 3;have c4:=aC HX4.out.dec 4;have c5:=aC HX4.out.dec 5;have c6:=aC HX4.out.dec 6;have c7:=aC HX4.out.dec 7;have c8:=aC HX4.out.dec 8;have hlD4:=aA HX4.out.dec;have hlE4:=aA HE4.out;have hDE:D≠w3.heap.size:=Nat.ne_of_lt hsz4;go_wp2_with fail
   clear hW4 k0 k1 k2 k3 k4 k5 g0 g1 g2 g3 g4 g5 f3 f4 f5 f6 f7 f8 c3' c4 c5 c6 c7 c8;obtain⟨e5,he5⟩:∃ e5,eV pg op' ⟨mn.toArray⟩ (.slice a3 n3 c3) ⟨ex.toArray⟩ al=e5:=⟨_,rfl⟩;generalize hW5:World.setCell _ _ _=w6;have hd6:w6.heap[D]? = some (fI vb k vp e5 d n):=by
    rw[←hW5,←he5];exact aG (aG (aG (aG (aG (aG HX4.out.dec)))))
   have hk46:Kb D W4 w6:=by
    exact Ke
   have HE6:=Hh ((hk46.block _ (aA HE4.out) (Ne.symm hDE)).trans HE4.out);have HX6:=Hh (HX4.out.kbd hk46 hd6 hlD);have hs2:D<w2:=Qj hlD HX2.out.kb.size;have HROW6:=Hh (Ei HROW4.out hk46 hs2);clear hW5 hd6 hk46 he5
  rotate_left
  focus
   have hp5:decide ((5:Int)≤(p:Int))=false:=by simp;omega
   go_wp2_with fail
   by_cases hb:at'<b.length
   rotate_left
   · refine (mB D b vb vp e' at' 0 0 _ HX1.out.dec (dY HV.out HX1.out.kb HNE.out) om).mono ?_;rintro r w2 ⟨rfl,hb2⟩;have HX2:=Hh (HX1.out.below hb2);clear hb2;have hRn:R=none:=by
      rw[←HRR2.out,show b.drop at'=[] from Zj om]
      simp[dW,fO,h5]
     subst hRn;go_wp2_with fail
     exact⟨rfl,rfl,⟨_,_,_,_,_,HX2.out.dec⟩,HX2.out.kb⟩
   obtain⟨x,hx⟩:∃ x,b[at']? = some x:=⟨_,Qb hb⟩;have HBX:=Hh hx;clear hx;refine (fW D b vb vp e' at' 0 0 x _ HX1.out.dec (dY HV.out HX1.out.kb HNE.out) HBX.out om HNE.out).mono ?_;rintro r w2 ⟨rfl,hd2,hk2⟩;have HX2:=Hh (HX1.out.kbd hk2 hd2 hlD);clear hd2 hk2;go_wp2_with fail
   obtain⟨E,hE⟩:∃ E,(atP p x.toNat).1.getD ent0=E:=⟨_,rfl⟩;obtain⟨K,hK⟩:∃ K,(atP p x.toNat).2=K:=⟨_,rfl⟩;have hat':=Dw p x.toNat w2 hp x.toNat_lt (HT.out _ HX2.out.kb);unfold kU at hat';rw[hE,hK] at hat';have HE:=Hh hE;have HK:=Hh hK;clear hE hK;obtain⟨pg,op',mn,args,ex,al⟩:=E;simp only[cP] at hat';have HAT:=Hh hat';clear hat';refine HAT.out.mono ?_;rintro r w3 ⟨v3,rfl,hrow3,hb3⟩;obtain⟨a3,n3,c3,rfl⟩:∃ a n c,v3=.slice a n c:=by obtain⟨a,c,rfl,_⟩:=hrow3;exact⟨_,_,_,rfl⟩
   obtain⟨W4,hW4⟩:∃ W4,w3.alloc (.cells #[pg,.int .u8 op',mn,.slice a3 n3 c3,ex,.bool al] 211)=W4:=⟨_,rfl⟩;have hal:Below w3 w3 W4:=by rw[←hW4];exact bl
   have HX4:=Hh ((HX2.out.below hb3).below hal);have HE4:=Hh (show W4.heap[w3.heap.size]? = some (.cells #[pg,.int .u8 op',mn,.slice a3 n3 c3,ex,.bool al] 211 (0,0)) by rw[←hW4];exact aF _ _)
   have HROW4:=Hh (hrow3.below hal);have hsz4:D<w3:=aA (HX2.out.below hb3).dec;have hsw4:w.heap.size<w3.heap.size:=aA (HX2.out.below hb3).box;clear hb3 hal hrow3;have HBD:=Hh (aCB HBX.out);by_cases hk2:K=2
   · subst hk2;obtain⟨hp5',hn7,hpf,_,_⟩:=Mp hp x HK.out;have HPF:=Hh hpf;clear hpf;have hpl:(pfx p).length≤2:=wF ⟨p,hp⟩;have c2:=aC HX4.out.dec 2;have f2:=aH HX4.out.dec 2;have hlr:=aA HX4.out.dec;have hlb:=aA HX4.out.box;go_wp2_with (at_builtin;refine wpList_append_own _ rfl _ _ 33 rfl (w.heap.size+1) 5 i0 (.int .u8 0) 1 1 underlying33 hi hz0 hz1 hz2 rfl dc _ _ _ rfl (HX4.out.below (br.alloc lr _)).own ⟨W4,0,none⟩ 1 1 [.int .u8 x.toNat] rfl rfl ?c1 ?c2 ?c3 ?c4 ?c5 ?_)
     case c1 =>
      intro q u hq;rw[bD];match q,hq with
      | 0,hq=>simp at hq;subst hq;simp[go_sem]
     case c2=>first|exact⟨rfl,rfl⟩|(intro u hu;simp at hu;subst hu;rfl)|rfl
     case c3=>unfold maxLen;omega
     case c4=>omega
     case c5=>simp[go_sem];omega
     intro v' w5 hown' hgrow hiff';have hoq:∀ q,some q=vp.ownBlock→w.heap.size+1≤q:=fun q hq=>(HX4.out.own.lt q hq.symm).1;have hd5:=iC hgrow (aE HX4.out.dec) (fun e=>by have:=hoq _ e;omega);have hb5:=iC hgrow (aE HX4.out.box) (fun e=>by have:=hoq _ e;omega);have hk5:=Oc (Kb.alloc HX4.out.kb _) hgrow (fun q hq=>by have:=hoq q hq.symm;omega);obtain⟨av,cv,rfl⟩:=aI hown';have HO5:=Hh hown';have HD5:=Hh hd5;have HB5:=Hh hb5;have HK5:=Hh hk5;clear hown' hgrow hiff' hoq hd5 hb5 hk5 c2 f2 hlr hlb hW4;have c2:=aC HD5.out 2;have f2:=aH HD5.out 2;have hlr:=aA HD5.out;go_wp2_with fail
     have hk6:Kb D w5 (w5.setCell ⟨D,2,none⟩ (.slice av ((pfx p).length+1) cv)):=Kb.setCell (Kb.refl _ _) 2 _;have hown6:(w5.setCell ⟨D,2,none⟩ (.slice av ((pfx p).length+1) cv)).ownsRow (w.heap.size+1) 5 1 (.slice av ((pfx p).length+1) cv) (pfx (cR p x)).length (aT (pfx (cR p x))):=by
      refine Kb.owns ?_ hk6 (fun e=>by have:=(HO5.out.lt _ e).1;omega)
      rw[←HPF.out,qL,Qc];exact HO5.out
     have hx6:ItmD D vb w (cR p x) (at'+1) (.slice av ((pfx p).length+1) cv) e' 0 0 (w5.setCell ⟨D,2,none⟩ (.slice av ((pfx p).length+1) cv)):=⟨aG HD5.out,hown6,aD HB5.out om,HK5.out.trans hk6⟩;refine⟨⟨cR p x,at'+1,(.slice av ((pfx p).length+1) cv),e',hn7,om,Hh hx6,Hh ?_⟩,?_⟩
     · have h1:=Pd hp x HK.out;have h2:=HF.out;have h3:fOf (cR p x)=f:=om
       rw[h3,←HRR2.out,HBD.out,iG hp5' HK.out]
     · rw[Ag hx6.dec,Ag HX.out.dec];omega
   have hk2b:((K:Int) == 2)=false:=by simp;omega
   by_cases hk0:K=0
   · subst hk0;go_wp2_with fail
     refine (Ej D b vb vp e' ((at'+1:Nat):Int) 0 0 1 1 rfl _ HX4.out.dec (dY HV.out HX4.out.kb HNE.out) om om om).mono ?_;rintro r w5 ⟨vr,rfl,ho5,hb5⟩;obtain⟨ar,cr,rfl⟩:=aI ho5;have HO5:=Hh ho5;have HX5:=Hh (HX4.out.below hb5);clear ho5 hb5;obtain⟨⟨q0,q1,q2,q3,q4⟩,f0,f1,f2,f3,f4⟩:=bJ HX5.out.box;have hl5:=aA HX5.out.box;clear hW4;obtain rfl:R=some ⟨2,b.take 1,([],[]),false⟩:=by
      rw[←HRR2.out,HBD.out];simp[dW,fO,h5,HK.out]
     go_wp2_with fail
     have hs4:w.heap.size≤W4.heap.size:=HX4.out.kb.size;refine bodyPost_ret (v:=itV ⟨2,b.take 1,([],[]),false⟩ (.slice ar 1 cr) (.slice none 0 0)) (by simp[results,results153,go_sem,itV,q0,q1,q2,q3,q4]) rfl ?_;refine⟨_,_,rfl,⟨?_,ORow.nil _ _,fun _=>.inr trivial⟩,⟨_,_,_,_,_,aD (aD (aD (aD (aD HX5.out.dec om) om) om) om) om⟩,Ex HX5.out.kb (cN _ _ _ _ _ _) lr⟩;have h1:(b.take 1).length=1:=by rw[Qt];omega
     refine Kb.owns ?_ (cN w5 _ _ _ _ _) (fun e=>by have:=(HO5.out.lt _ e).1;have:=aA HX4.out.box;omega)
     rw[h1]
     have:=HO5.out
     exact bR this hs4
   have hk0b:((K:Int) == 0)=false:=by simp;omega
   by_cases hk3:K=3
   · subst hk3;have hat9:b.length - (b.drop (at'+1)).length=at'+1:=by rw[Xm];omega
     have hi1:((at'+1:Nat):Int)=(at':Int)+1:=om
     have hd4:=HX4.out.dec;rw[hi1] at hd4;have HRAW:=Hh (fun W (hb:Below W4 W4 W)=>Ej D b vb vp e' ((at':Int)+1) 0 0 (at'+1) ((at':Int)+1) om W (aB hd4 hb (aA hd4)) (dY HV.out (HX4.out.below hb).kb HNE.out) om om om);have HC:Hid (∀ W,Below W4 W4 W→W.cell? ⟨D,1,none⟩=some (.int .i64 ((at':Int)+1))):=Hh (fun W hb=>aC (aB hd4 hb (aA hd4)) 1);have hDw:D≠w.heap.size:=Nat.ne_of_lt hlD;have HBX4:=Hh (fun W (hb:Below W4 W4 W)=>(HX4.out.below hb).box);obtain rfl:R=some ⟨3,b.take (at'+1),([],[]),false⟩:=by
      rw[←HRR2.out,HBD.out];simp only[dW,fO,h5,HK.out,if_false,hat9];simp
     have c1:=aC hd4 1;have hlD4:=aA hd4;clear hat9 hi1 hd4;go_wp2_with fail
     clear hW4;have hdr:Below W4 W4 W4.drew:=Below.drew br;have hc0:W4.drew.cell? ⟨D,1,none⟩=some (.int .i64 ((at':Int)+1)):=HC.out _ hdr;go_region_held3 (fun W=>W.cell? ⟨D,1,none⟩=some (.int .i64 ((at':Int)+1))) (first|(with_reducible exact hc0)|(with_reducible exact hc5)|(with_reducible exact hc6)) (first|((with_reducible refine (HRAW.out _ hdr).mono ?_);rintro r w5 ⟨vr,rfl,ho5,hb5⟩;obtain⟨ar,cr,rfl⟩:=aI ho5;have k5:Below W4 W4 w5:=hdr.trans hb5;have hc5:w5.cell? ⟨D,1,none⟩=some (.int .i64 ((at':Int)+1)):=HC.out _ k5;have hc6:=(Ls w5 D w 1 (.int .i64 3) (.slice ar (at'+1) cr) (.string ⟨#[]⟩) (.slice none 0 0) (.bool false) hDw).trans hc5;obtain⟨⟨q0,q1,q2,q3,q4⟩,f0,f1,f2,f3,f4⟩:=bJ (HBX4.out _ k5);have hl5:=aA (HBX4.out _ k5)))
     go_wp2_with fail
     have hs4:w.heap.size≤W4.heap.size:=HX4.out.kb.size;have hx5:=HX4.out.below k5;have hDn:D<w:=hlD;refine bodyPost_ret (v:=itV ⟨3,b.take (at'+1),([],[]),false⟩ (.slice ar (at'+1) cr) (.slice none 0 0)) (by simp[results,results153,go_sem,itV,q0,q1,q2,q3,q4]) rfl ?_;refine⟨_,_,rfl,⟨?_,ORow.nil _ _,fun _=>.inr trivial⟩,⟨_,_,_,_,_,aD (aD (aD (aD (aD hx5.dec om) om) om) om) om⟩,Ex hx5.kb (cN _ _ _ _ _ _) lr⟩;have h1:(b.take (at'+1)).length=at'+1:=by rw[Qt];omega
     have hso:W4.drew.heap.size=W4.heap.size:=rfl;refine Kb.owns ?_ (cN w5 _ _ _ _ _) (fun e=>by have:=(ho5.lt _ e).1;have:=aA HX4.out.box;omega)
     rw[h1];exact bR ho5 hs4
   have hk3b:((K:Int) == 3)=false:=by simp;omega
   have hkc:=sN x hp (by rw[HK.out];exact hk2);obtain⟨hK1,hE1⟩:K=1∧(atP p x.toNat).1=some ⟨pg,op',mn,args,ex,al⟩:=by
    have hE:=HE.out;have hK:=HK.out;rcases hkc with⟨E1,h⟩|h|⟨_,h⟩<;>rw[h] at hE hK
    · exact⟨hK.symm,by rw[h];exact congrArg some hE⟩
    · exact absurd hK.symm hk0
    · exact absurd hK.symm hk3
   have hRl:R=(dZ ex (b.drop (at'+1)) 0 0).map fun x=>⟨1,b.take (b.length - x.2.2.length),bI (bU ⟨pg,op',mn,args,ex,al⟩ x.1 x.2.1),al⟩:=by
    have h5d:decide (5≤p)=false:=by simp;omega
    rw[←HRR2.out,HBD.out];simp only[dW,fO,h5,HK.out,hK1,hE1,if_false,lM,Yy];simp
   have HUP:=Hh (Pi hp hE1);have HLE:=Hh (zR (show p<5 by omega) hE1);have HRL:=Hh hRl;clear hkc hRl hE1;obtain⟨⟨k0,k1,k2,k3,k4,k5⟩,g0,g1,g2,g3,g4,g5⟩:=aN HE4.out;have f3:=aH HX4.out.dec 3;have f4:=aH HX4.out.dec 4;have f5:=aH HX4.out.dec 5;have f6:=aH HX4.out.dec 6;have f7:=aH HX4.out.dec 7;have f8:=aH HX4.out.dec 8;have c3:=aC HX4.out.dec 3;have c4:=aC HX4.out.dec 4;have c5:=aC HX4.out.dec 5;have c6:=aC HX4.out.dec 6;have c7:=aC HX4.out.dec 7;have c8:=aC HX4.out.dec 8;have hlD4:=aA HX4.out.dec;have hlE4:=aA HE4.out;have hDE:D≠w3.heap.size:=Nat.ne_of_lt hsz4;go_wp2_with fail
   clear hW4 k0 k1 k2 k3 k4 k5 g0 g1 g2 g3 g4 g5 f3 f4 f5 f6 f7 f8 c3 c4 c5 c6 c7 c8;obtain⟨e5,he5⟩:∃ e5,eV pg op' ⟨mn.toArray⟩ (.slice a3 n3 c3) ⟨ex.toArray⟩ al=e5:=⟨_,rfl⟩;generalize hW5:World.setCell _ _ _=W5;have hd5:W5.heap[D]? = some (fI vb ((at'+1:Nat):Int) vp e5 0 0):=by
    rw[←hW5,←he5];exact aG (aG (aG (aG (aG (aG HX4.out.dec)))))
   have hk5:Kb D W4 W5:=by
    exact Ke
   have HD5:=Hh hd5;have HK5:=Hh hk5;clear hW5 hd5 hk5 he5;refine (vK D b vb vp e5 (at'+1) 0 0 ex HLE.out W5 HD5.out om (dY HV.out (HX4.out.kb.trans HK5.out) HNE.out) om (by have h1:ex.length≤3:=HUP.out.2.2.2;omega) HNE.out).mono ?_;rintro r w6 hres;obtain⟨X,hX⟩:∃ X,dZ ex (b.drop (at'+1)) 0 0=X:=⟨_,rfl⟩;rw[hX] at hres;have hRl:=HRL.out;rw[hX] at hRl;rcases X with _|⟨d,n,rest⟩
   · obtain⟨rfl,⟨_,_,_,h1⟩,h2⟩:=hres;obtain rfl:R=none:=hRl;clear hX;go_wp2_with fail
     exact⟨rfl,rfl,⟨_,_,_,_,_,h1⟩,(HX4.out.kb.trans HK5.out).trans h2⟩
   obtain⟨rfl,hd6,_,hk6⟩:=hres;have hrl:=iA _ _ _ _ _ hX;simp only[Xm] at hrl;obtain⟨k,hk⟩:∃ k,b.length - rest.length=k:=⟨_,rfl⟩;rw[hk] at hd6;have hRk:R=some ⟨1,b.take k,bI (bU ⟨pg,op',mn,args,ex,al⟩ d n),al⟩:=by rw[hRl,←hk];rfl
   have hk1:1≤k:=om
   have hkl:k≤b.length:=om
   have hk46:=HK5.out.trans hk6;have HE6:=Hh ((hk46.block _ (aA HE4.out) (Ne.symm hDE)).trans HE4.out);have HX6:=Hh (HX4.out.kbd hk46 hd6 hlD);have hs2:D<w2:=Qj hlD HX2.out.kb.size;have HROW6:=Hh (Ei HROW4.out hk46 hs2);have HRK:=Hh hRk;clear hRl hX hd6 hk6 hrl hk hk46 hRk
  all_goals
   obtain⟨hn3,_⟩:n3=args.length∧True:=by obtain⟨_,_,h,_⟩:=HROW6.out;simp at h;exact⟨h.2.1,trivial⟩
   subst hn3;have hfill:=fun W (hb:Below w6 w6 W)=>zP ⟨pg,op',mn,args,ex,al⟩ (.slice a3 args.length c3) d n W (HROW6.out.below hb).row (by have h1:args.length≤3:=HUP.out.2.2.1;show args.length≤1000;omega) (by have h1:mn.length≤100:=HUP.out.2.1;show mn.length≤1000;omega) HUP.out.1;simp only[cP] at hfill;have HFILL:=Hh hfill;clear hfill;go_wp2_with fail
   have h6d:w6.drew.heap[D]? = some (fI vb k vp e5 d n):=HX6.out.dec;have h6e:w6.drew.heap[w3.heap.size]? = some (.cells #[pg,.int .u8 op',mn,.slice a3 args.length c3,ex,.bool al] 211 (0,0)):=HE6.out;have hl6d:=aA h6d;have hl6e:=aA h6e;have hdr6:Below w6 w6 w6.drew:=Below.drew br;have hal6:Below w6 w6 (w6.alloc (.cells #[(),zz] 53)).drew:=bl;have h6da:(w6.alloc (.cells #[(),zz] 53)).drew.heap[D]? = _:=aE HX6.out.dec;have h6ea:(w6.alloc (.cells #[(),zz] 53)).drew.heap[w3.heap.size]? = _:=aE HE6.out;have h6ba:(w6.alloc (.cells #[(),zz] 53)).drew.heap[w6.heap.size]? = _:=aF w6 (.cells #[(),zz] 53);have hnd6:=Nat.ne_of_lt hl6d;have hne6:=Nat.ne_of_lt hl6e;have hc0:=kS (W:=w6.drew) h6d h6e;go_region_held3 (fun W=>(W.cell? ⟨D,9,none⟩=some (.int .i64 d)∧W.cell? ⟨D,10,none⟩=some (.int .i64 n))∧(W.cell? w3=some (.int .i64 pg)∧W.cell? ⟨w3,1,none⟩=some (.int .u8 op')∧W.cell? ⟨w3,2,none⟩=some (.string ⟨mn.toArray⟩)∧W.cell? ⟨w3,3,none⟩=some (.slice a3 args.length c3)∧W.cell? ⟨w3,4,none⟩=some (.string ⟨ex.toArray⟩)∧W.cell? ⟨w3,5,none⟩=some (.bool al))) (first|(with_reducible exact hc0)|(exact kS h7d h7e)|(exact kS h6da h6ea)|(exact kS (aE h7d) (aE h7e))|(exact kS (aD (aD (aE h7d) hn7d) hn7d) (aD (aD (aE h7e) hn7e) hn7e))|(exact kS (aD (aD h7d hn7d) hn7d) (aD (aD h7e hn7e) hn7e))) (first|((with_reducible refine (HFILL.out w6.drew hdr6).mono ?_);rintro r w7 hf7;obtain⟨a7,c7,b7,rfl,hr7,hb7⟩:=oL hf7;have h7d:=aB h6d hb7 hl6d;have h7e:=aB h6e hb7 hl6e;have hn7d:=Nat.ne_of_lt (aA h7d);have hn7e:=Nat.ne_of_lt (aA h7e))|((with_reducible refine (HFILL.out (w6.alloc (.cells #[(),zz] 53)).drew hal6).mono ?_);rintro r w7 hf7;obtain⟨a7,c7,b7,rfl,hr7,hb7⟩:=oL hf7;have h7d:=aB h6da hb7 (aA h6da);have h7e:=aB h6ea hb7 (aA h6ea);have h7b:=aB h6ba hb7 (aA h6ba);have hn7d:=hnd6;have hn7e:=hne6;have hl7:=aA h7b;have fx0:=aH h7b 0;have fx1:=aH h7b 1;have qx0:=aC h7b 0;have qx1:=aC h7b 1))
   generalize hF:World.alloc w7 _=F;obtain⟨Bx,hBx⟩:∃ Bx,w7.heap.size=Bx:=⟨_,rfl⟩;have h8d:F.heap[D]? = some (fI vb k vp e5 d n):=by rw[←hF];exact aE h7d
   have h8e:F.heap[w3.heap.size]? = some (.cells #[pg,.int .u8 op',mn,.slice a3 args.length c3,ex,.bool al] 211 (0,0)):=by rw[←hF];exact aE h7e
   have h8b:F.heap[Bx]? = some (.cells #[.string ⟨(bI (bU ⟨pg,op',mn,args,ex,al⟩ d n)).1.toArray⟩,.slice a7 (bI (bU ⟨pg,op',mn,args,ex,al⟩ d n)).2.length c7] 53 (0,0)):=by rw[←hF,←hBx];exact aF _ _
   have h78:Below w7 w7 F:=by rw[←hF];exact bl
   have h8r:ORow F w6 (.slice a7 (bI (bU ⟨pg,op',mn,args,ex,al⟩ d n)).2.length c7) (bI (bU ⟨pg,op',mn,args,ex,al⟩ d n)).2.length (opc (bI (bU ⟨pg,op',mn,args,ex,al⟩ d n)).2):=hr7.below h78;have h67:Below w6 w6 w7:=hdr6.trans hb7;have h8k:Below w6 w6 F:=h67.trans (h78.mono h67.size);have hge:w6.heap.size≤Bx:=by rw[←hBx];exact h67.size
   rw[hBx];clear h78 h67;rotate_left;generalize hF:World.setCell (World.setCell w7 _ _) _ _=F;obtain⟨Bx,hBx⟩:∃ Bx,w6.heap.size=Bx:=⟨_,rfl⟩;have h8d:F.heap[D]? = some (fI vb k vp e5 d n):=by rw[←hF];exact aD (aD h7d hn7d) hn7d
   have h8e:F.heap[w3.heap.size]? = some (.cells #[pg,.int .u8 op',mn,.slice a3 args.length c3,ex,.bool al] 211 (0,0)):=by rw[←hF];exact aD (aD h7e hn7e) hn7e
   have h8b:F.heap[Bx]? = some (.cells #[.string ⟨(bI (bU ⟨pg,op',mn,args,ex,al⟩ d n)).1.toArray⟩,.slice a7 (bI (bU ⟨pg,op',mn,args,ex,al⟩ d n)).2.length c7] 53 (0,0)):=by rw[←hF,←hBx];exact aG (aG h7b)
   have hkk:Kb w6 w7 F:=by rw[←hF];exact Kb.setCell (Kb.setCell (Kb.refl _ _) 0 _) 1 _
   have hsa:(w6.alloc (.cells #[(),zz] 53)).drew.heap.size=w6.heap.size+1:=Qa _ _;have h8r:ORow F w6 (.slice a7 (bI (bU ⟨pg,op',mn,args,ex,al⟩ d n)).2.length c7) (bI (bU ⟨pg,op',mn,args,ex,al⟩ d n)).2.length (opc (bI (bU ⟨pg,op',mn,args,ex,al⟩ d n)).2):=(dV hr7 hkk om).mono om;have h8k:Below w6 w6 F:=Ob (((Kb.of_below hal6).trans (Kb.of_below (b:=w6.heap.size) hb7)).trans hkk) lr;have hge:w6.heap.size≤Bx:=Zw hBx;rw[hBx];clear h7b hl7 fx0 fx1 qx0 qx1 hkk hsa;all_goals
    have HX8:=Hh (HX6.out.below h8k);have h8D:=Hh h8d;have h8E:=Hh h8e;have h8B:=Hh h8b;have h8R:=Hh h8r;clear hF h8d h8e h8b h8r h8k hf7 hr7 hb7 h7d h7e hn7d hn7e h6d h6e hl6d hl6e hdr6 hal6 h6da h6ea h6ba hnd6 hne6 hc0 hBx;have hs6:w.heap.size<w6.heap.size:=aA HX6.out.box;have hDw:D≠w.heap.size:=Nat.ne_of_lt hlD;have hEw:w3.heap.size≠w.heap.size:=om
    have hBw:Bx≠w.heap.size:=om
    have HRAW:=Hh (qX D b vb vp e5 k d n k F.drew h8D.out (dY HV.out (HX8.out.kb.trans (Kb.drew (Kb.refl _ _))) HNE.out) hk1 hkl om);have hlF:=aA h8D.out;have hlG:=aA h8E.out;have hlH:=aA h8B.out;obtain rfl:R=some ⟨1,b.take k,(bI (bU ⟨pg,op',mn,args,ex,al⟩ d n)),al⟩:=HRK.out;clear hge;go_wp2_with fail
    have hc0:=vE (W:=F.drew) h8D.out h8E.out h8B.out;go_region_held3 (fun W=>(W.cell? ⟨D,1,none⟩=some (.int .i64 k)∧W.cell? ⟨w3,5,none⟩=some (.bool al)∧W.cell? ⟨Bx,0,none⟩=some (.string ⟨(bI (bU ⟨pg,op',mn,args,ex,al⟩ d n)).1.toArray⟩)∧W.cell? ⟨Bx,1,none⟩=some (.slice a7 (bI (bU ⟨pg,op',mn,args,ex,al⟩ d n)).2.length c7))) (first|(with_reducible exact hc0)|(with_reducible exact hc5)|(exact vE (cK h9d hDw _ _ _ _ _) (cK h9e hEw _ _ _ _ _) (cK h9b hBw _ _ _ _ _))) (first|((with_reducible refine HRAW.out.mono ?_);rintro r w9 ⟨vr,rfl,ho9,hb9⟩;obtain⟨ar,cr,rfl⟩:=aI ho9;have k9:Below F F w9:=(Below.drew (Below.refl F F)).trans hb9;have h9d:=aB h8D.out k9 hlF;have h9e:=aB h8E.out k9 hlG;have h9b:=aB h8B.out k9 hlH;have hc5:=vE h9d h9e h9b;have HX9:=HX8.out.below k9;obtain⟨⟨q0,q1,q2,q3,q4⟩,f0,f1,f2,f3,f4⟩:=bJ HX9.box;have hl9:=aA HX9.box))
    go_wp2_with fail
    refine bodyPost_ret (v:=itV ⟨1,b.take k,(bI (bU ⟨pg,op',mn,args,ex,al⟩ d n)),al⟩ (.slice ar k cr) (.slice a7 (bI (bU ⟨pg,op',mn,args,ex,al⟩ d n)).2.length c7)) (by simp[results,results153,go_sem,itV,q0,q1,q2,q3,q4]) rfl ?_;refine⟨_,_,rfl,⟨?_,?_,fun _=>.inr trivial⟩,⟨_,_,_,_,_,cK h9d hDw _ _ _ _ _⟩,Ex HX9.kb (cN _ _ _ _ _ _) lr⟩
    · have h1:(b.take k).length=k:=by rw[Qt];omega
      have hsF:w.heap.size<F.heap.size:=aA HX8.out.box;have hso:F.drew.heap.size=F.heap.size:=rfl;refine Kb.owns ?_ (cN w9 _ _ _ _ _) (fun e=>by have:=(ho9.lt _ e).1;omega)
      rw[h1];exact bR ho9 om
    · exact (dV (h8R.out.below k9) (cN w9 _ _ _ _ _) hs6).mono (Xr hs6)
theorem aEr (p q r:Addr) (w:World) :
 CallsD prog 151 #[.pointer (some p),.pointer (some q),.pointer (some r)] .returning w fun e u' w'=>e=.returned (.tuple #[])∧u'=.returning∧w'=w:=by
 refine callsD_of_wpS func151 rfl fun c₀ cs hu=>?_;apply wpS_seq
 apply wpS_region
 simp[wpOpsS,go_sem,recoverD,hu,ntmps151,Exit.thenS]
 rw[show (#[Value.pointer (some p),Value.pointer (some q),Value.pointer (some r)]++(Array.replicate 16 undef).setIfInBounds 3 (.nilIface))=#[Value.pointer (some p),Value.pointer (some q),Value.pointer (some r),undef,undef,undef,.nilIface,undef,undef,undef,undef,undef,undef,undef,undef,undef,undef,undef,undef] from rfl]
 refine wpS_of_wp ?_;go_wp2_with fail
 cases c₀
 simp_all [bodyPostS,results,results151]
theorem On {W:World} {P Q:Nat} {x y:Value} {T U:TypeId} (h:W.heap[P]? = some (.cells #[x] T (0,0))) (g:W.heap[Q]? = some (.cells #[y] U (0,0))):W.cell? P=some x∧W.cell? Q=some y:=⟨aC h 0,aC g 0⟩
theorem Bl (P Q R D:Nat) (TP TQ:TypeId) (a:Option Addr) (c:Nat) (b:List UInt8) (vp:Value) (e:Nat→Value) (at' d n:Int) (older:List PanicEntry) (w:World)
 (hP:w.heap[P]? = some (.cells #[.pointer D] TP (0,0))) (hQ:w.heap[Q]? = some (.cells #[.slice a b.length c] TQ (0,0)))
 (hR:w.heap[R]? = some (.cells #[(0:Int),zz,(),zz,.bool false] 55 (0,0))) (hD:w.heap[D]? = some (fI (.slice a b.length c) at' vp e d n)) (hv:Row w (.slice a b.length c) b.length (aT b)) (hb0:0<b.length) (hl:b.length≤1000000) (hPR:P≠R) (hQR:Q≠R) :
 CallsD prog 151 #[.pointer P,.pointer Q,.pointer R] (.panicking ({ v:=.iface 215 (.agg #[]),recovered:=false }::older)) w fun e u' w' =>
  e=.returned (.tuple #[])∧u'=.panicking ({ v:=.iface 215 (.agg #[]),recovered:=true }::older)∧∃ vr,w'.heap[R]? = some (.cells #[(4:Int),vr,(),zz,.bool false] 55 (0,0))∧w'.ownsRow w 5 1 vr b.length (aT b)∧Kb R w w':=by
 refine callsD_of_wpS func151 rfl fun c₀ cs hu=>?_;apply wpS_seq
 apply wpS_region
 simp[wpOpsS,go_sem,recoverD,hu,ntmps151,Exit.thenS]
 rw[show (#[Value.pointer P,Value.pointer Q,Value.pointer R]++(Array.replicate 16 undef).setIfInBounds 3 (.iface 215 (.agg #[])))=#[Value.pointer P,Value.pointer Q,Value.pointer R,undef,undef,undef,.iface 215 (.agg #[]),undef,undef,undef,undef,undef,undef,undef,undef,undef,undef,undef,undef] from rfl]
 refine wpS_of_wp ?_;have hta:∀ wx:World,Sem.run prog (Instr.typeAssert (.iface 215 (.agg #[])) 20 215 true) wx=.ok (.tuple #[.agg #[],.bool true]) wx:=by
  intro wx;first|rfl|kernel_rfl
 have HRAW:=Hh (fun W (hb:Below w w W)=>qX D b (.slice a b.length c) vp e at' d n b.length W (aB hD hb (aA hD)) (hv.below hb) hb0 lr hl);have HP:=Hh hP;have HQ:=Hh hQ;have HR:=Hh hR;have hlP:=aA hP;have hlQ:=aA hQ;have hlR:=aA hR;clear hP hQ hR hD hv hb0;go_wp2_with fail
 generalize hW1:World.alloc w _=W1;have h1:Below w w W1:=by rw[←hW1];exact bl
 have HB1:=Hh h1;have hP1:=aB HP.out h1 hlP;have hQ1:=aB HQ.out h1 hlQ;have hR1:=aB HR.out h1 hlR;clear hW1 h1;have HP1:=Hh hP1;have HQ1:=Hh hQ1;have HR1:=Hh hR1;clear hP1 hQ1 hR1 hlP hlQ hlR;go_wp2_with fail
 have hc0:=On (W:=W1.drew) HP1.out HQ1.out;have hdr:Below w w W1.drew:=Below.drew HB1.out;go_region_held3 (fun W=>W.cell? P=some (.pointer D)∧W.cell? Q=some (.slice a b.length c)) (first|(with_reducible exact hc0)|(with_reducible exact hc5)|(exact On (cK h5p hPR _ _ _ _ _) (cK h5q hQR _ _ _ _ _))) (first|((with_reducible refine (HRAW.out W1.drew hdr).mono ?_);rintro r w5 ⟨vr,rfl,ho5,hb5⟩;obtain⟨ar,cr,rfl⟩:=aI ho5;have k5:Below W1 W1 w5:=(Below.drew (Below.refl W1 W1)).trans hb5;have h5p:=aB HP1.out k5 (aA HP1.out);have h5q:=aB HQ1.out k5 (aA HQ1.out);have h5r:=aB HR1.out k5 (aA HR1.out);have hc5:=On h5p h5q;obtain⟨⟨q0,q1,q2,q3,q4⟩,f0,f1,f2,f3,f4⟩:=bJ h5r;have hl5:=aA h5r))
 go_wp2_with fail
 have hfin:∃ vr,(((((w5.setCell R (4:Int)).setCell ⟨R,1,none⟩ (.slice ar b.length cr)).setCell ⟨R,2,none⟩ ()).setCell ⟨R,3,none⟩ zz).setCell ⟨R,4,none⟩ (.bool false)).heap[R]? = some (.cells #[(4:Int),vr,(),zz,.bool false] 55 (0,0))∧(((((w5.setCell R (4:Int)).setCell ⟨R,1,none⟩ (.slice ar b.length cr)).setCell ⟨R,2,none⟩ ()).setCell ⟨R,3,none⟩ zz).setCell ⟨R,4,none⟩ (.bool false)).ownsRow w.heap.size 5 1 vr b.length (aT b)∧Kb R w (((((w5.setCell R (4:Int)).setCell ⟨R,1,none⟩ (.slice ar b.length cr)).setCell ⟨R,2,none⟩ ()).setCell ⟨R,3,none⟩ zz).setCell ⟨R,4,none⟩ (.bool false)):=by
  refine⟨.slice ar b.length cr,aG (aG (aG (aG (aG h5r)))),?_,?_⟩
  · have htk:b.take b.length=b:=Qy;rw[htk] at ho5;have hs:W1.drew.heap.size=W1.heap.size:=rfl;have hlR:=aA HR1.out;exact Kb.owns (bR ho5 (by rw[hs];exact HB1.out.size)) (cN w5 _ _ _ _ _) (fun e=>by have:=(ho5.lt _ e).1;omega)
  · exact ((Kb.of_below HB1.out).trans (Kb.of_below k5)).trans (cN w5 _ _ _ _ _)
 have HFIN:=Hh hfin;clear hfin;generalize hW9:World.setCell (World.setCell (World.setCell (World.setCell (World.setCell w5 _ _) _ _) _ _) _ _) _ _=W9 at HFIN ⊢;clear hW9 h5p h5q h5r hc5 hc0 q0 q1 q2 q3 q4 f0 f1 f2 f3 f4 hl5 ho5 hb5 k5 hta hdr;cases c₀
 simp_all only[bodyPostS]
 refine⟨trivial,_,rfl,.tuple #[],?_,?_⟩
 · simp[results,results151]
 · exact⟨rfl,rfl,HFIN.out⟩
def xG (b:List UInt8) (w:World) (x:Ending) (w':World):Prop :=
 ∃ vr va p,x=.returned (.tuple #[itV (bX b) vr va,p])∧ItAt w.heap.size (bX b) vr va w'∧Below w.heap.size w w'
theorem Mj (b:List UInt8) (a:Option Addr) (c:Nat) (w:World) (hv:Row w (.slice a b.length c) b.length (aT b)) (hl:b.length≤100000) (hT:∀ W,Below w w W→TabsA W) :
 Calls prog 107 #[.slice a b.length c] w (xG b w):=by
 have HV:=Hh hv;have HT:=Hh hT;clear hv hT;go_enter_defers func107,ntmps107
 by_cases hb:b=[]
 · subst hb;go_wp2_with fail
   generalize hW4:World.alloc (World.alloc _ _) _=W4;have hR:W4.heap[w.heap.size+1]? = some (.cells #[(0:Int),zz,(),zz,.bool false] 55 (0,0)):=by
    rw[←hW4];refine aE (aE ?_);have h1:=aF (w.alloc (.cells #[.slice a 0 c] 33)) (.cells #[(0:Int),zz,(),zz,.bool false] 55);rw[Qa] at h1;exact h1
   have hP:W4.heap[w.heap.size+1+1]? = some (.cells #[.pointer (some ⟨w.heap.size+1+1+1,0,none⟩)] 172 (0,0)):=by
    rw[←hW4];refine aE ?_;have h1:=aF ((w.alloc (.cells #[.slice a 0 c] 33)).alloc (.cells #[(0:Int),zz,(),zz,.bool false] 55)) (.cells #[.pointer (some ⟨w.heap.size+1+1+1,0,none⟩)] 172);rw[Qa,Qa] at h1;exact h1
   have hB4:Below w w W4:=by rw[←hW4];exact bl
   have HP:=Hh hP;have HR:=Hh hR;have HB4:=Hh hB4;clear hW4 hP hR hB4;have hPR:w.heap.size+1+1≠w.heap.size+1:=om
   have hRP:w.heap.size+1≠w.heap.size+1+1:=om
   obtain⟨⟨q0,q1,q2,q3,q4⟩,f0,f1,f2,f3,f4⟩:=bJ HR.out;have hl5:=aA HR.out;have hl6:=aA HP.out;have q5:=aC HP.out 0;have f5:=aH HP.out 0;have c6:(((((W4.setCell ⟨w+1,0,none⟩ (0:Int)).setCell ⟨w+1,1,none⟩ zz).setCell ⟨w+1,2,none⟩ ()).setCell ⟨w+1,3,none⟩ zz).setCell ⟨w+1,4,none⟩ (.bool false)).cell? ⟨w.heap.size+1+1,0,none⟩=some (.pointer (some ⟨w.heap.size+1+1+1,0,none⟩)):=(Ls W4 _ _ 0 _ _ _ _ _ hPR).trans q5;have f6:(((((W4.setCell ⟨w+1,0,none⟩ (0:Int)).setCell ⟨w+1,1,none⟩ zz).setCell ⟨w+1,2,none⟩ ()).setCell ⟨w+1,3,none⟩ zz).setCell ⟨w+1,4,none⟩ (.bool false)).frozen? ⟨w.heap.size+1+1,0,none⟩=false:=aH (cK HP.out hPR _ _ _ _ _) 0;go_region
   clear q0 q1 q2 q3 q4 q5 f0 f1 f2 f3 f4 f5 c6 f6;have h8p:((((((W4.setCell ⟨w+1,0,none⟩ (0:Int)).setCell ⟨w+1,1,none⟩ zz).setCell ⟨w+1,2,none⟩ ()).setCell ⟨w+1,3,none⟩ zz).setCell ⟨w+1,4,none⟩ (.bool false)).setCell ⟨w.heap.size+1+1,0,none⟩ (.pointer (some ⟨w.heap.size+1+1+1,0,none⟩))).heap[w.heap.size+1+1]? = some (.cells #[.pointer (some ⟨w.heap.size+1+1+1,0,none⟩)] 172 (0,0)):=aG (cK HP.out hPR _ _ _ _ _);have h8r:((((((W4.setCell ⟨w+1,0,none⟩ (0:Int)).setCell ⟨w+1,1,none⟩ zz).setCell ⟨w+1,2,none⟩ ()).setCell ⟨w+1,3,none⟩ zz).setCell ⟨w+1,4,none⟩ (.bool false)).setCell ⟨w.heap.size+1+1,0,none⟩ (.pointer (some ⟨w.heap.size+1+1+1,0,none⟩))).heap[w.heap.size+1]? = some (.cells #[(0:Int),zz,(),zz,.bool false] 55 (0,0)):=aD (aG (aG (aG (aG (aG HR.out))))) hRP;have hk6:Kb (w.heap.size+1) W4 (((((W4.setCell ⟨w+1,0,none⟩ (0:Int)).setCell ⟨w+1,1,none⟩ zz).setCell ⟨w+1,2,none⟩ ()).setCell ⟨w+1,3,none⟩ zz).setCell ⟨w+1,4,none⟩ (.bool false)):=cN W4 _ _ _ _ _;have hk7:Kb (w.heap.size+1+1) (((((W4.setCell ⟨w+1,0,none⟩ (0:Int)).setCell ⟨w+1,1,none⟩ zz).setCell ⟨w+1,2,none⟩ ()).setCell ⟨w+1,3,none⟩ zz).setCell ⟨w+1,4,none⟩ (.bool false)) ((((((W4.setCell ⟨w+1,0,none⟩ (0:Int)).setCell ⟨w+1,1,none⟩ zz).setCell ⟨w+1,2,none⟩ ()).setCell ⟨w+1,3,none⟩ zz).setCell ⟨w+1,4,none⟩ (.bool false)).setCell ⟨w.heap.size+1+1,0,none⟩ (.pointer (some ⟨w.heap.size+1+1+1,0,none⟩))):=Kb.setCell (Kb.refl _ _) 0 _;have hb7:=bS (bS HB4.out HB4.out.size hk6 om) (Qn HB4.out.size hk6.size) hk7 om;obtain⟨F,hF8⟩:∃ F,(((((W4.setCell ⟨w+1,0,none⟩ (0:Int)).setCell ⟨w+1,1,none⟩ zz).setCell ⟨w+1,2,none⟩ ()).setCell ⟨w+1,3,none⟩ zz).setCell ⟨w+1,4,none⟩ (.bool false)).setCell ⟨w.heap.size+1+1,0,none⟩ (.pointer (some ⟨w.heap.size+1+1+1,0,none⟩))=F:=⟨_,rfl⟩;rw[hF8] at h8p h8r hb7 ⊢;have H8P:=Hh h8p;have H8R:=Hh h8r;have HB7:=Hh hb7;clear hF8 h8p h8r hb7 hk6 hk7 hl5 hl6;go_wp2_with fail
   obtain⟨⟨r0,r1,r2,r3,r4⟩,_⟩:=bJ H8R.out;have r5:=aC H8P.out 0;have hsz6:=aA H8R.out;simp[bodyPostD,Leaves,results,results107,go_sem,r0,r1,r2,r3,r4,r5]
   have hFb:bX []=⟨0,[],([],[]),false⟩:=rfl;refine⟨.slice none 0 0,.slice none 0 0,_,by rw[hFb];rfl,?_,Below.drew HB7.out⟩
   rw[hFb];exact⟨Xa _ _ _ _,ORow.nil _ _,fun _=>.inr trivial⟩
 have hpos:0<b.length:=by rcases b with _|⟨x,b⟩;exact absurd rfl hb;simp
 have hlb:((b.length:Int) == 0)=false:=by simp;omega
 go_wp2_with fail
 clear hlb;generalize hW4:World.alloc (World.alloc _ _) _=W4;obtain⟨B,hB⟩:∃ B,w.heap.size=B:=⟨_,rfl⟩;have hQ:W4.heap[w.heap.size]? = some (.cells #[.slice a b.length c] 33 (0,0)):=by rw[←hW4];exact aE (aE (aE (aF _ _)))
 have hR:W4.heap[w.heap.size+1]? = some (.cells #[(0:Int),zz,(),zz,.bool false] 55 (0,0)):=by
  rw[←hW4];refine aE (aE ?_);have h1:=aF (w.alloc (.cells #[.slice a b.length c] 33)) (.cells #[(0:Int),zz,(),zz,.bool false] 55);rw[Qa] at h1;exact h1
 have hP:W4.heap[w.heap.size+1+1]? = some (.cells #[.pointer (some ⟨w.heap.size+1+1+1,0,none⟩)] 172 (0,0)):=by
  rw[←hW4];refine aE ?_;have h1:=aF ((w.alloc (.cells #[.slice a b.length c] 33)).alloc (.cells #[(0:Int),zz,(),zz,.bool false] 55)) (.cells #[.pointer (some ⟨w.heap.size+1+1+1,0,none⟩)] 172);rw[Qa,Qa] at h1;exact h1
 have hD:W4.heap[w.heap.size+1+1+1]? = some (fI (.slice a b.length c) 0 (.slice none 0 0) (eV 0 0 ⟨#[]⟩ (.slice none 0 0) ⟨#[]⟩ false) 0 0):=by
  rw[←hW4];have h1:=aF (((w.alloc (.cells #[.slice a b.length c] 33)).alloc (.cells #[(0:Int),zz,(),zz,.bool false] 55)).alloc (.cells #[.pointer (some ⟨w.heap.size+1+1+1,0,none⟩)] 172)) (fI (.slice a b.length c) 0 (.slice none 0 0) (eV 0 0 ⟨#[]⟩ (.slice none 0 0) ⟨#[]⟩ false) 0 0);rw[Qa,Qa,Qa] at h1;exact h1
 have hB4:Below w w W4:=by rw[←hW4];exact bl
 have hne:(Value.slice a b.length c).ownBlock≠some (w.heap.size+1+1+1):=by
  obtain⟨a',c',h1,_,h2⟩:=HV.out;obtain⟨g,o,h3,h4,_⟩:=h2 (by rcases b with _|⟨x,b⟩;exact absurd rfl hb;simp[aT]);injection h1 with h1 _ _
  subst h1;rw[h3];intro h;injection h with h
  change g=_ at h;omega
 have hBd:Below w w W4.drew:=Below.drew hB4;have hDd:W4.drew.heap[w.heap.size+1+1+1]? = some (fI (.slice a b.length c) 0 (.slice none 0 0) (eV 0 0 ⟨#[]⟩ (.slice none 0 0) ⟨#[]⟩ false) 0 0):=hD;have hit:=Od (w.heap.size+1+1+1) b (.slice a b.length c) _ W4.drew hDd (HV.out.below hBd) hl hne (fun W hk=>HT.out W (bS hBd hBd.size hk om));obtain⟨r0,hr0⟩:∃ r0,dW 3 0 b b=r0:=⟨_,rfl⟩;rw[hr0] at hit;have hF:bX b=r0.getD ⟨4,b,([],[]),false⟩:=by unfold bX;rw[if_neg hb,hr0]
 have HF:=Hh hF;have HIT:=Hh hit;have HQ:=Hh hQ;have HP:=Hh hP;have HR:=Hh hR;have HB4:=Hh hB4;have HNE:=Hh hne;have hlP:=aA hP;have hlQ:=aA hQ;have hlR:=aA hR;clear hW4 hQ hR hP hD hDd hBd hB4 hne hit hr0 hF hB;have HBD:=Hh hb;have hPR:w.heap.size+1+1≠w.heap.size+1:=om
 clear hb;go_wp2_with fail
 rcases r0 with _|it
 · unfold Fm at HIT;have hc0:W4.cell? ⟨w.heap.size+1+1,0,none⟩=some (.pointer (some ⟨w.heap.size+1+1+1,0,none⟩)):=aC HP.out 0;go_region_dies
   all_goals
    refine HIT.out.mono ?_;rintro r w5 hres;obtain⟨rfl,⟨at5,d5,n5,vp5,e5,hd5⟩,hk5⟩:=hres;have h5p:=(hk5.block _ hlP om).trans HP.out;have h5q:=(hk5.block _ hlQ om).trans HQ.out;have h5r:=(hk5.block _ hlR om).trans HR.out;have hv5:=dY (HV.out.below (Below.drew HB4.out)) hk5 HNE.out;have hb5:=bS (Below.drew HB4.out) (Below.drew HB4.out).size hk5 (show w.heap.size≤w.heap.size+1+1+1 by omega);have H5P:=Hh h5p;have H5Q:=Hh h5q;have H5R:=Hh h5r;have HV5:=Hh hv5;have HB5:=Hh hb5;have HD5:=Hh hd5;clear h5p h5q h5r hv5 hb5 hd5 hk5 hc0 hlP hlQ hlR;go_wp2_with fail
    refine leaves_cons (f:=151) (args:=#[.pointer (some ⟨w.heap.size+1+1,0,none⟩),.pointer w,.pointer (w+1:Nat)]) sm (by simp[go_sem]) ?_;refine (Bl (w.heap.size+1+1) w.heap.size (w.heap.size+1) (w.heap.size+1+1+1) _ _ a c b vp5 e5 at5 d5 n5 [] w5 H5P.out H5Q.out H5R.out HD5.out HV5.out hpos om om om).mono ?_;rintro x u' w6 ⟨rfl,rfl,vr,hr6,ho6,hk6⟩;obtain⟨⟨q0,q1,q2,q3,q4⟩,_⟩:=bJ hr6;have q5:=aC ((hk6.block _ (aA H5P.out) hPR).trans H5P.out) 0;have hsz6:=aA hr6;simp[Leaves,settle,results,results107,go_sem,q0,q1,q2,q3,q4,q5]
    have hFb:bX b=⟨4,b,([],[]),false⟩:=HF.out;refine⟨vr,.slice none 0 0,_,by rw[hFb];rfl,?_,bS HB5.out HB5.out.size hk6 om⟩
    rw[hFb];exact⟨bR ho6 HB5.out.size,ORow.nil _ _,fun _=>.inr trivial⟩
 · obtain⟨ki,ra,⟨im,ia⟩,ial⟩:=it;have hc0:W4.drew.cell? ⟨w.heap.size+1+1,0,none⟩=some (.pointer (some ⟨w.heap.size+1+1+1,0,none⟩)):=aC HP.out 0;have hRP:w.heap.size+1≠w.heap.size+1+1:=om
   go_region_held3 (fun W=>W.cell? ⟨w.heap.size+1+1,0,none⟩=some (.pointer (some ⟨w.heap.size+1+1+1,0,none⟩))) (first|(with_reducible exact hc0)|(with_reducible exact hc5)|(with_reducible exact hc6)|(with_reducible exact hc7)) (first|((with_reducible refine HIT.out.mono ?_);rintro r w5 hres;obtain⟨vr,va,rfl,hat5,⟨at5,d5,n5,vp5,e5,hd5⟩,hk5⟩:=hres;obtain⟨ar,cr,rfl⟩:=aI hat5.raw;obtain⟨aa,ca,rfl⟩:∃ aa ca,va=.slice aa ia.length ca:=hat5.args.slice;have h5p:=(hk5.block _ hlP om).trans HP.out;have h5r:=(hk5.block _ hlR om).trans HR.out;simp only[itV];obtain⟨⟨q0,q1,q2,q3,q4⟩,f0,f1,f2,f3,f4⟩:=bJ h5r;have hl5:=aA h5r;have hl6:=aA h5p;have hc5:w5.cell? ⟨w.heap.size+1+1,0,none⟩=some (.pointer (some ⟨w.heap.size+1+1+1,0,none⟩)):=aC h5p 0;have hc6:(((((w5.setCell ⟨w+1,0,none⟩ ki).setCell ⟨w+1,1,none⟩ (.slice ar ra.length cr)).setCell ⟨w+1,2,none⟩ im).setCell ⟨w+1,3,none⟩ (.slice aa ia.length ca)).setCell ⟨w+1,4,none⟩ (.bool ial)).cell? ⟨w.heap.size+1+1,0,none⟩=some (.pointer (some ⟨w.heap.size+1+1+1,0,none⟩)):=(Ls w5 _ _ 0 _ _ _ _ _ hPR).trans hc5;have hf6:(((((w5.setCell ⟨w+1,0,none⟩ ki).setCell ⟨w+1,1,none⟩ (.slice ar ra.length cr)).setCell ⟨w+1,2,none⟩ im).setCell ⟨w+1,3,none⟩ (.slice aa ia.length ca)).setCell ⟨w+1,4,none⟩ (.bool ial)).frozen? ⟨w.heap.size+1+1,0,none⟩=false:=aH (cK h5p hPR _ _ _ _ _) 0;have hc7:((((((w5.setCell ⟨w+1,0,none⟩ ki).setCell ⟨w+1,1,none⟩ (.slice ar ra.length cr)).setCell ⟨w+1,2,none⟩ im).setCell ⟨w+1,3,none⟩ (.slice aa ia.length ca)).setCell ⟨w+1,4,none⟩ (.bool ial)).setCell ⟨w.heap.size+1+1,0,none⟩ (.pointer (some ⟨w.heap.size+1+1+1,0,none⟩))).cell? ⟨w.heap.size+1+1,0,none⟩=some (.pointer (some ⟨w.heap.size+1+1+1,0,none⟩)):=aC (aG (cK h5p hPR _ _ _ _ _)) 0))
   go_wp2_with fail
   have hk6:Kb (w.heap.size+1) w5 (((((w5.setCell ⟨w+1,0,none⟩ ki).setCell ⟨w+1,1,none⟩ (.slice ar ra.length cr)).setCell ⟨w+1,2,none⟩ im).setCell ⟨w+1,3,none⟩ (.slice aa ia.length ca)).setCell ⟨w+1,4,none⟩ (.bool ial)):=cN w5 _ _ _ _ _;have hk7:Kb (w.heap.size+1+1) (((((w5.setCell ⟨w+1,0,none⟩ ki).setCell ⟨w+1,1,none⟩ (.slice ar ra.length cr)).setCell ⟨w+1,2,none⟩ im).setCell ⟨w+1,3,none⟩ (.slice aa ia.length ca)).setCell ⟨w+1,4,none⟩ (.bool ial)) ((((((w5.setCell ⟨w+1,0,none⟩ ki).setCell ⟨w+1,1,none⟩ (.slice ar ra.length cr)).setCell ⟨w+1,2,none⟩ im).setCell ⟨w+1,3,none⟩ (.slice aa ia.length ca)).setCell ⟨w+1,4,none⟩ (.bool ial)).setCell ⟨w.heap.size+1+1,0,none⟩ (.pointer (some ⟨w.heap.size+1+1+1,0,none⟩))):=Kb.setCell (Kb.refl _ _) 0 _;have h8p:((((((w5.setCell ⟨w+1,0,none⟩ ki).setCell ⟨w+1,1,none⟩ (.slice ar ra.length cr)).setCell ⟨w+1,2,none⟩ im).setCell ⟨w+1,3,none⟩ (.slice aa ia.length ca)).setCell ⟨w+1,4,none⟩ (.bool ial)).setCell ⟨w.heap.size+1+1,0,none⟩ (.pointer (some ⟨w.heap.size+1+1+1,0,none⟩))).heap[w.heap.size+1+1]? = some (.cells #[.pointer (some ⟨w.heap.size+1+1+1,0,none⟩)] 172 (0,0)):=aG (cK h5p hPR _ _ _ _ _);have h8r:((((((w5.setCell ⟨w+1,0,none⟩ ki).setCell ⟨w+1,1,none⟩ (.slice ar ra.length cr)).setCell ⟨w+1,2,none⟩ im).setCell ⟨w+1,3,none⟩ (.slice aa ia.length ca)).setCell ⟨w+1,4,none⟩ (.bool ial)).setCell ⟨w.heap.size+1+1,0,none⟩ (.pointer (some ⟨w.heap.size+1+1+1,0,none⟩))).heap[w.heap.size+1]? = some (.cells #[ki,.slice ar ra.length cr,im,.slice aa ia.length ca,.bool ial] 55 (0,0)):=aD (aG (aG (aG (aG (aG h5r))))) hRP;have hb5:=bS (Below.drew HB4.out) (Below.drew HB4.out).size hk5 (show w.heap.size≤w.heap.size+1+1+1 by omega);have hsd:W4.drew.heap.size=W4.heap.size:=rfl;have hb7:=bS (bS hb5 hb5.size hk6 om) (Qn hb5.size hk6.size) hk7 om;have hraw:=Kb.owns (Kb.owns hat5.raw hk6 (fun e=>by have:=(hat5.raw.lt _ e).1;omega)) hk7 (fun e=>by have:=(hat5.raw.lt _ e).1;omega)
   have harg:=dV (dV hat5.args hk6 (by rw[hsd];exact hlR)) hk7 (by rw[hsd];exact hlP);generalize hF8:World.setCell (World.setCell (World.setCell (World.setCell (World.setCell (World.setCell w5 _ _) _ _) _ _) _ _) _ _) _ _=F at h8p h8r hb7 hraw harg ⊢;have H8P:=Hh h8p;have H8R:=Hh h8r;have HB7:=Hh hb7;have HRAW:=Hh hraw;have HARG:=Hh harg;have hsz:w.heap.size≤W4.heap.size:=HB4.out.size;clear hF8 h8p h8r hb7 hraw harg hk6 hk7 hc0 hc5 hc6 hf6 hc7 hat5 hd5 hk5 h5p h5r q0 q1 q2 q3 q4 f0 f1 f2 f3 f4 hl5 hl6 hb5;go_wp2_with fail
   refine leaves_cons (f:=151) (args:=#[.pointer (some ⟨w.heap.size+1+1,0,none⟩),.pointer w,.pointer (w+1:Nat)]) sm (by simp[go_sem]) ?_;refine (aEr ⟨w.heap.size+1+1,0,none⟩ ⟨w,0,none⟩ ⟨w+1,0,none⟩ F).mono ?_;rintro x u' w6 ⟨rfl,rfl,rfl⟩;obtain⟨⟨q0,q1,q2,q3,q4⟩,_⟩:=bJ H8R.out;have q5:=aC H8P.out 0;have hsz6:=aA H8R.out;simp[Leaves,settle,results,results107,go_sem,q0,q1,q2,q3,q4,q5]
   have hFb:bX b=⟨ki,ra,(im,ia),ial⟩:=HF.out;refine⟨.slice ar ra.length cr,.slice aa ia.length ca,_,by rw[hFb];rfl,?_,HB7.out⟩
   rw[hFb];exact⟨bR HRAW.out (by rw[hsd];exact hsz),HARG.out.mono (by rw[hsd];exact hsz),fun _=>.inr trivial⟩
def An (it:It) (w:World) (x:Ending) (w':World):Prop :=
 ∃ vr va,x=.returned (itV it vr va)∧ItAt w.heap.size it vr va w'∧Below w.heap.size w w'
theorem Il (b:List UInt8) (a:Option Addr) (c:Nat) (w:World) (hv:Row w (.slice a b.length c) b.length (aT b)) (hl:b.length≤100000) (hT:∀ W,Below w w W→TabsA W) :
 Calls prog 68 #[.slice a b.length c] w (An (bX b) w):=by
 have HR:Hid (∀ W,Below w w W→Calls prog 107 #[.slice a b.length c] W (xG b W)):=Hh (fun W (hb:Below w w W)=>Mj b a c W (hv.below hb) hl (fun W' h=>hT W' (hb.trans (h.mono hb.size))));unfold xG at HR;generalize bX b=it at HR ⊢;obtain⟨ki,ra,⟨im,ia⟩,ial⟩:=it;clear hv hT;go_enter func68,ntmps68
 go_wp2_with fail
 generalize hW1:World.alloc w _=W1;have hb1:Below w w W1:=by rw[←hW1];exact bl
 have hx1:W1.heap[w.heap.size]? = some (.cells #[(0:Int),zz,(),zz,.bool false] 55 (0,0)):=by rw[←hW1];exact aF _ _
 clear hW1;refine (HR.out W1 hb1).mono ?_;rintro r w1 ⟨vr,va,p,rfl,hit,hb⟩;obtain⟨ar,cr,rfl⟩:=aI hit.raw;obtain⟨aa,ca,rfl⟩:∃ aa ca,va=.slice aa ia.length ca:=hit.args.slice;have hl1:=aA hx1;have hx2:=aB hx1 hb hl1;have HIT:=Hh hit;have HBW:=Hh (hb1.trans (hb.mono (Xr hl1)));have HX2:=Hh hx2;have HSZ:=Hh (show w.heap.size<W1.heap.size from hl1);clear hit hb hx1 hb1 hl1 hx2;obtain⟨⟨q0,q1,q2,q3,q4⟩,f0,f1,f2,f3,f4⟩:=bJ HX2.out;have hl2:=aA HX2.out;simp only[itV];go_wp2_with fail
 clear q0 q1 q2 q3 q4 f0 f1 f2 f3 f4 hl2;generalize hF:World.setCell (World.setCell (World.setCell (World.setCell (World.setCell w1 _ _) _ _) _ _) _ _) _ _=F;have hk:Kb w w1 F:=by rw[←hF];exact cN _ _ _ _ _ _
 have hx3:F.heap[w.heap.size]? = some (.cells #[ki,.slice ar ra.length cr,im,.slice aa ia.length ca,.bool ial] 55 (0,0)):=by rw[←hF];exact aG (aG (aG (aG (aG HX2.out))))
 have hraw:=bR (Kb.owns HIT.out.raw hk (fun e=>by have:=(HIT.out.raw.lt _ e).1;have:=HSZ.out;omega)) (Xr HSZ.out)
 have harg:=(dV HIT.out.args hk HSZ.out).mono (Xr HSZ.out);have hbf:=bS HBW.out HBW.out.size hk lr;clear hF hk;generalize hG:World.alloc F _=G;have hal:Below F F G:=by rw[←hG];exact br.alloc lr _
 have hx4:=aB hx3 hal (aA hx3);have hraw4:=bK hraw hal;have harg4:=harg.below hal;have hbg:=hbf.trans (hal.mono hbf.size);clear hG hal hx3 hraw harg hbf;obtain⟨⟨r0,r1,r2,r3,r4⟩,_⟩:=bJ hx4;have hlf:=aA hx4;exact bodyPost_ret (v:=itV ⟨ki,ra,(im,ia),ial⟩ (.slice ar ra.length cr) (.slice aa ia.length ca)) (by simp[results,results68,go_sem,itV,r0,r1,r2,r3,r4]) rfl ⟨_,_,rfl,⟨hraw4,harg4,fun _=>.inr trivial⟩,hbg⟩
def Ap (it:It) (next:Int) (w:World) (x:Ending) (w':World):Prop :=
 ∃ vr va,x=.returned (.tuple #[itV it vr va,.int .i64 next,.bool true])∧ItAt w.heap.size it vr va w'∧Below w.heap.size w w'
theorem Di (b:List UInt8) (a:Option Addr) (c:Nat) (w:World) :
 Calls prog 83 #[.slice a b.length c,b.length] w fun x w'=>x=.returned (.tuple #[itV ⟨0,[],([],[]),false⟩ (.slice none 0 0) (.slice none 0 0),(0:Int),.bool false])∧Below w w w':=by
 have h0:¬ (b.length:Int)<0:=om
 have h1:(b.length:Int)≤(b.length:Int):=Int.le_refl _;go_enter func83,ntmps83
 go_wp2_with fail
 exact bodyPost_ret (v:=.tuple #[itV ⟨0,[],([],[]),false⟩ (.slice none 0 0) (.slice none 0 0),(0:Int),.bool false]) (by simp[results,results83,go_sem,itV]) rfl ⟨rfl,bl⟩
theorem Dh (b:List UInt8) (a:Option Addr) (c k:Nat) (w:World) (hv:Row w (.slice a b.length c) b.length (aT b)) (hl:b.length≤100000) (hk:k<b.length) (hT:∀ W,Below w w W→TabsA W) :
 Calls prog 83 #[.slice a b.length c,k] w (Ap (bX (b.drop k)) (k+(bX (b.drop k)).raw.length:Int) w):=by
 have hrl:=(kC (b.drop k) (by intro e;have:=congrArg List.length e;simp at this;omega)).2.1;rw[Xm] at hrl;obtain⟨_,_,hv0,hcap,hh⟩:=hv;cases hv0
 obtain⟨g,o,rfl,hg,hcs⟩:=hh (by intro e;have:=congrArg List.length e;simp[aT] at this;rw[this] at hk;exact absurd hk (Qw _))
 have hrow:=yB (k:=k) ⟨_,_,rfl,hcap,fun _=>⟨g,o,rfl,hg,hcs⟩⟩ rfl hk;have HF:=Hh (fun W (hb:Below w w W)=>Il (b.drop k) _ _ W (hrow.below hb) (by rw[Xm];omega) (fun W' h=>hT W' (hb.trans (h.mono hb.size))));unfold An at HF;rw[Xm] at HF;generalize bX (b.drop k)=it at HF hrl ⊢;obtain⟨ki,ra,⟨im,ia⟩,ial⟩:=it;dsimp only at hrl;have h0:¬ (k:Int)<0:=om
 have h1:¬ (b.length:Int)≤(k:Int):=om
 have h2:(k:Int)≤(b.length:Int):=om
 have h3:(b.length:Int)≤(c:Int):=om
 have h4:((b.length - k:Nat):Int)=(b.length:Int) - k:=om
 have HL:=Hh (And.intro hrl (And.intro hl hk));clear hrow hT hh hcs hcap hrl hl hk;go_enter func83,ntmps83
 go_wp2_with fail
 have hal:Below w w (w.alloc (.cells #[(0:Int),zz,(),zz,.bool false] 55)):=br.alloc lr _;refine (HF.out _ hal).mono ?_;rintro e w2 ⟨vr,va,rfl,hit,hb2⟩;obtain⟨ar,cr,rfl⟩:=aI hit.raw;obtain⟨aa,ca,rfl⟩:=hit.args.slice;have hbx:=aW hb2;have hbw:=aK hb2;have HIT:=Hh hit;clear hal hb2 hit;simp only[itV];have hlx:=aA hbx;go_wp2_with fail
 generalize hW3:World.alloc w2 _=W3;have hal:Below w2 w2 W3:=by rw[←hW3];exact br.alloc lr _
 have hx3:W3.heap[w2.heap.size]? = some (.cells #[ki,.slice ar ra.length cr,im,.slice aa ia.length ca,.bool ial] 55 (0,0)):=by rw[←hW3];exact aF _ _
 have hb3:=aB hbx hal hlx;have HIT3:=Hh (HIT.out.below hal);have HBW3:=Hh (hbw.trans (hal.mono hbw.size));have hne:w.heap.size≠w2.heap.size:=om
 have hne2:w2.heap.size≠w.heap.size:=om
 clear hW3 hal hbx hbw HIT;obtain⟨⟨q0,q1,q2,q3,q4⟩,_⟩:=bJ hx3;obtain⟨⟨r0,r1,r2,r3,r4⟩,f0,f1,f2,f3,f4⟩:=bJ hb3;have hl3:=aA hx3;have hl4:=aA hb3;have HB3:=Hh hb3;have hkl:(0:Int)≤(k:Int)+(ra.length:Int)∧(k:Int)+(ra.length:Int)≤1000000:=by have:=HL.out;omega
 obtain⟨hkl0,hkl1⟩:=hkl;clear hx3 hb3;go_region
 all_goals
  go_wp2_with fail
  generalize hF:World.setCell (World.setCell (World.setCell (World.setCell (World.setCell W3 _ _) _ _) _ _) _ _) _ _=F;have hk:Kb w W3 F:=by rw[←hF];exact cN _ _ _ _ _ _
  have hfx:F.drew.heap[w.heap.size]? = some (.cells #[ki,.slice ar ra.length cr,im,.slice aa ia.length ca,.bool ial] 55 (0,0)):=by rw[←hF];exact aG (aG (aG (aG (aG HB3.out))))
  have hit:ItAt w ⟨ki,ra,(im,ia),ial⟩ (.slice ar ra.length cr) (.slice aa ia.length ca) F.drew:=by
   have hs:(w.alloc (.cells #[(0:Int),zz,(),zz,.bool false] 55)).heap.size=w.heap.size+1:=Qa _ _;have h1:=HIT3.out.raw;have h2:=HIT3.out.args;rw[hs] at h1 h2;have h3:=Kb.owns h1 hk (fun e=>by have:=(h1.lt w e).1;omega)
   exact⟨bR h3 (Xn _),(dV h2 hk (Yg _)).mono (Xn _),fun _=>.inr trivial⟩
  have hb:=Below.drew (bS HBW3.out HBW3.out.size hk lr);clear hF hk;generalize F.drew=G at *;obtain⟨⟨s0,s1,s2,s3,s4⟩,_⟩:=bJ hfx;have hlf:=aA hfx;exact bodyPost_ret (v:=.tuple #[itV ⟨ki,ra,(im,ia),ial⟩ (.slice ar ra.length cr) (.slice aa ia.length ca),(k+ra.length:Int),.bool true]) (by simp[results,results83,go_sem,itV,s0,s1,s2,s3,s4]) rfl ⟨_,_,rfl,hit,hb⟩
end
section
open Go.RowKit Go.Sort Go.Shelf
open Go.Proofs.Tryz
attribute [local go_sem] Oper.semAt_some
theorem Tr (n bb:Nat) (hn:1≤n) (b:List UInt8) (a:Option Addr) (c:Nat) (w0:World) (hbb:w0.heap[bb]? = some (.cells #[.slice a b.length c] 33 (0,0))) (hv:Row w0 (.slice a b.length c) b.length (aT b)) (hl:b.length≤100000) (hT:∀ W,Below w0 w0 W→TabsA W) :
 vS Fence.wide n prog 82 #[.pointer bb] (fun x:ItX=>#[itV x.1 x.2.1 x.2.2]) (fun A B=>w0.heap.size≤A.heap.size→Below w0 A B) (fun A B=>Below A A B)
  (fun W=>Below w0 w0 W) (fun x W=>ItAt w0 x.1 x.2.1 x.2.2 W) (fun xs=>xs.map Prod.fst=dI b) (fun _=>True) (dI b).length:=by
 intro lp J Jx W hR hJ hJx hY h0;have hbl:=aA hbb;have HAT:=Hh (fun X k (hb:Below w0 w0 X) hk=>Dh b a c k X (Row.below hv hb) hl hk (fun W' h=>hT W' (hb.trans (h.mono hb.size))));have HCB:=Hh (fun X (hb:Below w0 w0 X)=>show X.cell? bb=some (.slice a b.length c) from aC (aB hbb hb hbl) 0)
 have HR:=Hh hR;have HJ:=Hh hJ;have HY:=Hh hY;have H0:=Hh h0;have HBL:=Hh hbl;clear hR hJ hJx hY h0 hbb hv hT hbl;refine callsIn_of_wp func82 rfl trivial ?_ rfl;simp only[ntmps82,Qx,Qp,Qz,Nat.reduceAdd,Nat.reduceSub,Array.replicate_succ,Array.replicate_zero,List.push_toArray,List.append_toArray,Ye,Xy];gi_wp2
 gi_loopg [3] (b.length+1) (fun k i wr=>∃ (q:Nat) (pre:List ItX),q≤b.length∧i=.int .i64 q∧Hid (pre.map Prod.fst++dI (b.drop q)=dI b)∧Hid (J pre wr)∧Hid (Below w0 w0 wr)∧b.length - q<k)
 case atStart=>exact⟨0,[],Qi _,rfl,Hh sm,H0,HR,om⟩
 case round =>
  obtain⟨q,pre,hq,rfl,HE,HJR,HB,hk⟩:=hrel;have hcb:=HCB.out wr HB.out;have hcl:bb<wr:=Qj HBL.out HB.out.size;by_cases hlt:q<b.length
  · have hat:=HAT.out wr q HB.out hlt;have hne:b.drop q≠[]:=by intro e;have:=congrArg List.length e;simp at this;omega
    have hdc:=pQ (b.drop q) hne;have hrl:=kC (b.drop q) hne;rw[Zn] at hdc;rw[Xm] at hrl;unfold Ap at hat;have hE:=HE.out;generalize hit:bX (b.drop q)=it at hat hdc hrl;rw[hdc] at hE;have hN:pre.length<(dI b).length:=by rw[←hE];simp
    have HEQ:=Hh hE;have HAT2:=Hh hat;have HN:=Hh hN;obtain⟨hr1,hr2,-⟩:=hrl;clear hat hdc hE hN hit hne HE;gi_wp2_with fail
    refine⟨trivial,?_⟩;refine (callsIn_wide.2 HAT2.out).mono ?_;rintro e w2 ⟨vr,va,rfl,hit,hb2⟩;obtain⟨ki,ra,⟨im,ia⟩,ial⟩:=it;obtain⟨ar,cr,rfl⟩:=aI hit.raw;obtain⟨aa,ca,rfl⟩:=hit.args.slice;dsimp only at hr1 hr2;obtain⟨W3,hW3⟩:∃ W3,w2.alloc (.cells #[ki,.slice ar ra.length cr,im,.slice aa ia.length ca,.bool ial] 55)=W3:=⟨_,rfl⟩;have hal:Below w2 w2 W3:=by rw[←hW3];exact br.alloc lr _
    have hb3:=hb2.trans (hal.mono hb2.size);have hbox:W3.heap[w2.heap.size]? = some (.cells #[ki,.slice ar ra.length cr,im,.slice aa ia.length ca,.bool ial] 55 (0,0)):=by rw[←hW3];exact aF _ _
    have hj3:=HJ.out _ _ _ HJR.out hb3;have hit3:=(hit.mono HB.out.size).below hal;have hYA:=HY.out pre (⟨ki,ra,(im,ia),ial⟩,.slice ar ra.length cr,.slice aa ia.length ca) W3 hj3 hit3 HN.out;obtain⟨fn,tmps,assign,body,hy,hR⟩:=hYA;have HRY:=Hh hR;have HB3:=Hh (HB.out.trans (hb3.mono HB.out.size));obtain⟨⟨q0,q1,q2,q3,q4⟩,_⟩:=bJ hbox;have hlx:=aA hbox;have hq3:(0:Int)≤(q:Int)+(ra.length:Int)∧(q:Int)+(ra.length:Int)≤1000000:=om
    obtain⟨hq30,hq31⟩:=hq3;clear hal hb2 hb3 hbox hj3 hit hit3 hR HAT2 hcb hcl;have HNM:=Hh (And.intro hr1 (And.intro hr2 (And.intro hl hlt)));clear hr1 hr2 hl hlt;dsimp only;have hiv:itV ⟨ki,ra,(im,ia),ial⟩ (.slice ar ra.length cr) (.slice aa ia.length ca)=.agg #[ki,.slice ar ra.length cr,im,.slice aa ia.length ca,.bool ial]:=rfl;rw[hiv] at hy ⊢;clear hiv;gi_wp2_with fail
    refine HRY.out.mono ?_;rintro e W7 (⟨rfl,hJ7,hk7⟩|⟨rfl,hJx7⟩)
    · have HJ7:=Hh hJ7;have HB7:=Hh (HB3.out.trans (hk7 HB3.out.size));clear hJ7 hk7 q0 q1 q2 q3 q4 hy HRY HB3 hlx hW3;gi_wp2_with fail
      gi_roundg (b.length - q)
      case measure=>exact hk
      case rel =>
       have hnm:=HNM.out;exact⟨q+ra.length,pre++[(⟨ki,ra,(im,ia),ial⟩,.slice ar ra.length cr,.slice aa ia.length ca)],om,by go_num,Hh (by rw[←HEQ.out];simp),HJ7,HB7,om⟩
    · have HX7:=Hh hJx7;clear hJx7 q0 q1 q2 q3 q4 hy HRY HB3 hlx hW3;gi_wp2_with fail
      refine bodyPost_ret (results_none rfl _ _ _) rfl ?_;exact⟨⟨_,rfl⟩,.inr ⟨_,trivial,HX7.out⟩⟩
  · obtain rfl:q=b.length:=om
    have HAT2:=Hh (Di b a c wr);have hE:=HE.out;rw[List.drop_length,zT,Zd] at hE;have HEQ:=Hh hE;clear hE HE;gi_wp2_with fail
    refine⟨trivial,?_⟩;refine (callsIn_wide.2 HAT2.out).mono ?_;rintro e w2 ⟨rfl,hb2⟩;have hal:Below w2 w2 (w2.alloc (.cells #[(0:Int),zz,(),zz,.bool false] 55)):=br.alloc lr _;have HJ3:=Hh (HJ.out _ _ _ HJR.out (hb2.trans (hal.mono hb2.size)));clear hal hb2 HAT2 hcb hcl;have hiv:itV ⟨0,[],([],[]),false⟩ (.slice none 0 0) (.slice none 0 0)=.agg #[(0:Int),zz,(),zz,.bool false]:=rfl;rw[hiv];clear hiv;gi_wp2_with fail
    refine⟨by simp,?_⟩
    gi_wp2_with fail
    refine bodyPost_ret (results_none rfl _ _ _) rfl ?_;exact⟨⟨_,rfl⟩,.inl ⟨pre,HEQ.out,HJ3.out⟩⟩
end
section
open Go.RowKit Go.Sort Go.Shelf
open Go.Proofs.Tryz
attribute [local go_sem] Oper.semAt_some
theorem gK {A B:World} (h:fV 0 A B):lZ 0 A B:=fun k o _=>h.2 k o (Qi _)
theorem uB (bb:Nat) (b:List UInt8) (a:Option Addr) (c:Nat) (w:World) (hbb:w.heap[bb]? = some (.cells #[.slice a b.length c] 33 (0,0))) (hv:Row w (.slice a b.length c) b.length (aT b)) (hl:b.length≤100000) (hT:∀ W,Below w w W→TabsA W) :
 Calls prog 81 #[zz,.func (.func 82) #[] #[.pointer bb]] w fun e w'=>∃ v its,e=.returned v∧its.map Prod.fst=dI b∧ItsAt w' w v its∧Below w w w':=by
 obtain⟨i0,hi,hz0,hz1,hz2⟩:=info_parts Tryz.infoItem;have HSEQ:=Hh (fun n hn=>Tr n bb hn b a c w hbb hv hl hT);have hdl:(dI b).length≤100000:=Qn (kK b) hl;generalize dI b=L at *;clear hbb hv hT hl;refine (callsIn_wide (n:=3)).1 ?_;refine callsIn_of_wp_marks func81 rfl trivial ?_ rfl;simp only[ntmps81,Qx,Qp,Qz,Nat.reduceAdd,Nat.reduceSub,Array.replicate_succ,Array.replicate_zero,List.push_toArray,List.append_toArray,Ye,Xy];refine wpIn_wide.2 ?_;go_wp2_with fail
 obtain⟨w1,hw1⟩:∃ w1,w.alloc (.cells #[zz] 29)=w1:=⟨_,rfl⟩;have hb1:Below w w w1:=by rw[←hw1];exact br.alloc lr _
 have hx1:Boxed w1 w 29 (.slice none 0 0):=by rw[←hw1];exact Boxed.new w _ _
 have hs1:w.heap.size≤w1.heap.size:=hb1.size;rw[hw1];clear hw1;refine (wpIn_wide (n:=3)).1 ?_;refine cM rfl dc (gf:=82) (lb:=#[.pointer bb]) rfl trivial (enters_of func82 kr rfl)
  (HSEQ.out 2 dc)
  (fun o o'=>(hb1.alloc hs1 o).alloc (by rw[Qa];omega) o')
  (fun A B k o h hk _ _=>aB hk h (aA hk)) (fun h k ha=>(h ha).trans (k (Qn ha (h ha).size))) (fun W l o o' hl h hc hw _=>belowK_b hs1 W l o o' hl h hc hw) (fun x W l o o' h _ hl hc=>h.on (gK (cC (b:=0) W l o o' hl hc)) (Qi _)) (fun _=>rfl)
  (fun pre W=>(∃ v,Boxed W w 29 v∧ItsAt W w v pre)∧Below w w W)
  (fun _ _ _=>False)
  ?hI ?hIs (fun c s A B row h _ _=>h) (fun c s A B h _=>h) ⟨⟨_,hx1,ItsAt.nil _ _⟩,hb1⟩
  (fun x W=>{ tmps:=#[.slice none 0 0,.func (.func 82) #[] #[.pointer bb],.pointer w,undef,.slice none 0 0,.pointer (some ⟨W,0,none⟩),.func (.func 82) #[] #[.pointer bb],itV x.1 x.2.1 x.2.2,undef,undef,undef,undef,undef],defers:=[] })
  (fun x W=>W.alloc (.cells #[x.1.kind,x.2.1,x.1.ins.1,x.2.2,.bool x.1.alias] 55))
  (fun x a' W=>∃ k,a'={ tmps:=#[.slice none 0 0,.func (.func 82) #[] #[.pointer bb],.pointer w,undef,.slice none 0 0,.pointer (some ⟨k,0,none⟩),.func (.func 82) #[] #[.pointer bb],itV x.1 x.2.1 x.2.2,undef,undef,undef,undef,undef],defers:=[] }∧W.heap[k]? = some (.cells #[x.1.kind,x.2.1,x.1.ins.1,x.2.2,.bool x.1.alias] 55 (0,0)))
  ?assign (fun x W=>br.alloc lr _) (fun x W ha=>br.alloc ha _) (fun x W h=>h.below (br.alloc lr _)) (fun x W=>⟨_,rfl,aF _ _⟩) (fun x a' W l o o' ⟨k,h1,h2⟩ _ hl hc=>⟨k,h1,(cC (b:=0) W l o o' hl hc).2 _ _ (Qi _) h2 rfl⟩) ?body ?done (fun D cd pre W _ _ h _=>h.elim)
 case hI=>exact OwnFrom.and (fun s A B row ⟨v,h1,h2⟩ hg hr=>⟨v,(fG hg hr).2 _ _ (Qi _) h1 rfl,h2.on (gK (fG hg hr)) (Qi _)⟩) (ownFrom_below lr hs1)
 case hIs=>exact fun s A B ⟨⟨v,h1,h2⟩,h3⟩ hs=>⟨⟨v,aB h1 hs (aA h1),h2.below hs⟩,h3.trans (hs.mono h3.size)⟩
 case assign =>
  rintro l ⟨⟨ki,ra,⟨im,ia⟩,ial⟩,vr,va⟩ W K hg hK;dsimp only at hg;obtain⟨ar,cr,rfl⟩:=aI hg.raw;obtain⟨aa,ca,rfl⟩:=hg.args.slice;dsimp only[itV] at hK ⊢;gi_wp2
  exact hK
 case body =>
  rintro lp pre ⟨⟨ki,ra,⟨im,ia⟩,ial⟩,vr,va⟩ a' W ⟨⟨v,hbox,hits⟩,hbl⟩ hgv ⟨k,rfl,hk⟩ hN;dsimp only at hgv hk hN;obtain⟨ar,cr,rfl⟩:=aI hgv.raw;obtain⟨aa,ca,rfl⟩:=hgv.args.slice;dsimp only[itV];have HBOX:=Hh hbox;have HITS:=Hh hits;have HBL:=Hh hbl;have HGV:=Hh hgv;have c0:=hbox.cell;have f0:=hbox.frozen;have hlb:=hbox.lt;obtain⟨⟨q0,q1,q2,q3,q4⟩,_⟩:=bJ hk;have hlk:=aA hk;obtain⟨av,cv,rfl⟩:=aI hits.own;clear hbox hits hbl hgv hk;have hpl:pre.length≤100000:=om
  have hbw:=HBL.out.size;gi_wp2_with (gi_at_builtin;refine wpListIn_append_own _ rfl _ _ 29 rfl w 55 i0 (.agg #[(0:Int),zz,(),zz,.bool false]) 5 80 underlying29 hi hz0 hz1 hz2 rfl dc _ _ _ rfl (HITS.out.own.alloc _) ⟨W,0,none⟩ 1 1 [.int .i64 ki,.slice ar ra.length cr,.string ⟨im.toArray⟩,.slice aa ia.length ca,.bool ial] rfl rfl (xP _ _ _ _ _ _ _) aAz (by unfold maxLen;omega) om (by simp;omega) ?_;intro v' w3 hown' hg3 _;obtain⟨g',cap',rfl⟩:=ownsRow_succ hown';have hv1:=(HBOX.out.alloc (.cells #[ki,.slice ar ra.length cr,im,.slice aa ia.length ca,.bool ial] 55)).kept hg3 (HBOX.out.not_row dc HITS.out.own);have hc1:=hv1.cell;have hf1:=hv1.frozen)
  obtain⟨_,hv2,_,hk2,hb2⟩:=HBOX.out.appended dc HITS.out.own hbw lr hown' hg3;have hal:Below W W (W.alloc (.cells #[ki,.slice ar ra.length cr,im,.slice aa ia.length ca,.bool ial] 55)):=br.alloc lr _;have hits3:=(HITS.out.below hal).snoc (x:=(⟨ki,ra,(im,ia),ial⟩,.slice ar ra.length cr,.slice aa ia.length ca)) (HGV.out.below hal) hown' hg3;refine⟨hk2,fun _=>hb2,⟨_,hv2,?_⟩,HBL.out.trans hb2⟩;have hlen:(pre++[((⟨ki,ra,(im,ia),ial⟩,.slice ar ra.length cr,.slice aa ia.length ca):ItX)]).length=pre.length+1:=by simp
  exact hits3.kept (grownBy_setCell' w3 w _) hv1 (fun c m=>⟨fun e=>(by cases e),fun e=>(by cases e),fun e=>(by cases e)⟩)
 case done =>
  rintro D xs W hD hxs ⟨⟨v,hbox,hits⟩,hbl⟩ hK;have HITS:=Hh hits;have HBL:=Hh hbl;have HXS:=Hh hxs;have c0:=hbox.cell;have hlb:=hbox.lt;obtain⟨av,cv,rfl⟩:=aI hits.own;clear hits hbl hxs hbox;go_wp2_with fail
  have hits:=HITS.out;refine⟨by simp,.inl ⟨_,_,rfl,run_takeDeferred hK,?_⟩⟩
  refine⟨.slice av xs.length cv,by simp[results,Tryz.f81,go_sem],_,xs,rfl,HXS.out,hits.on (gK (cC (b:=0) W D _ _ hK rfl)) (Qi _),HBL.out.trans (belowK_b (w:=w) lr W D _ _ om hK rfl rfl)⟩
end
end Go.Proofs.YtoigglljnklhlaaGreatDoor
