/- Joined. -/
import Derived.Test.YtoigglljnklhlaaGreatDoorD30
import Derived.Test.YtoigglljnklhlaaGreatDoorD32
import Derived.Test.YtoigglljnklhlaaGreatDoorD33
import Derived.Test.YtoigglljnklhlaaGreatDoorD35
set_option maxHeartbeats 8000000
set_option maxRecDepth 100000
namespace Go.Proofs.YtoigglljnklhlaaGreatDoor
section
open Go.RowKit Go.Sort
open Go.Proofs.Tryz
theorem uA (bb:Nat) (b:List UInt8) (a:Option Addr) (c:Nat) (w:World) (hbb:w.heap[bb]? = some (.cells #[.slice a b.length c] 33 (0,0))) (hv:Row w (.slice a b.length c) b.length (aT b)) (hl:b.length≤100000) (hT:∀ W,Below w w W→TabsA W) :
 Calls prog 48 #[.func (.func 82) #[] #[.pointer bb]] w fun e w'=>∃ v its,e=.returned v∧its.map Prod.fst=dI b∧ItsAt w' w v its∧Below w w w':=by
 have HS:=Hh (uB bb b a c w hbb hv hl hT);clear hbb hv hl hT;go_enter func48,ntmps48
 go_wp2_with fail
 refine HS.out.mono ?_;rintro e w1 ⟨v,its,rfl,h1,h2,h3⟩;have H1:=Hh h1;have H2:=Hh h2;have H3:=Hh h3;clear h1 h2 h3;go_wp2_with fail
 go_ret;exact⟨v,its,rfl,H1.out,H2.out,H3.out⟩
theorem Pn (a:Option Addr) (n c:Nat) (w:World):Calls prog 49 #[.slice a n c] w fun e w'=>e=.returned (.func (.func 82) #[] #[.pointer w])∧w'=w.alloc (.cells #[.slice a n c] 33):=by
 go_enter func49,ntmps49
 go_wp2_with fail
 go_ret;exact⟨rfl,rfl⟩
theorem Dg (b:List UInt8) (v:Value) (w:World) (hv:Row w v b.length (aT b)) (hl:b.length≤100000) (hT:∀ W,Below w w W→TabsA W) :
 Calls prog 26 #[v] w fun e w'=>∃ v' its,e=.returned v'∧its.map Prod.fst=dI b∧ItsAt w' w v' its∧Below w w w':=by
 have hv2:=hv;obtain⟨a,c,rfl,_,_⟩:=hv;have hal:Below w w (w.alloc (.cells #[.slice a b.length c] 33)):=br.alloc lr _;have HC:=Hh (uA w b a c (w.alloc (.cells #[.slice a b.length c] 33)) (aF _ _) (hv2.below hal) hl (fun W h=>hT W (hal.trans (h.mono sm))));have HAL:=Hh hal;clear hv2 hT hal;go_enter func26,ntmps26
 go_wp2_with fail
 refine (Pn a b.length c w).mono ?_;rintro e w1 ⟨rfl,rfl⟩;go_wp2_with fail
 refine HC.out.mono ?_;rintro e w2 ⟨v',its,rfl,h1,h2,h3⟩;have H1:=Hh h1;have H2:=Hh h2;have H3:=Hh (HAL.out.trans (h3.mono HAL.out.size));clear h1 h2 h3;go_wp2_with fail
 go_ret;exact⟨v',its,rfl,H1.out,H2.out.mono (by rw[Qa];omega),H3.out⟩
def tU (l:List Nat):List Value:=l.map fun n:Nat=>Value.int .i64 (n:Int)
theorem Of (l m:List Nat):tU (l++m)=tU l++tU m:=by simp[tU]
theorem Mz (its:List ItX) (v:Value) (b:Nat) (w:World) (h:ItsAt w b v its) (hl:its.length≤100000) (hr:dJ (its.map Prod.fst)≤1000000) :
 Calls prog 58 #[v] w fun e w'=>∃ v',e=.returned v'∧w'.ownsRow w 3 1 v' its.length (tU (nX 0 (its.map Prod.fst)))∧Below w w w':=by
 obtain⟨i0,hi,hz0,hz1,hz2⟩:=info_parts Tryz.infoInt;have HI:=Hh h;obtain⟨a,c,rfl,hcap,_⟩:=h.get;clear h;go_enter func58,ntmps58
 go_wp2_with fail
 go_loopw [3,4,9] (fun o s i wr=>∃ (j:Nat),j≤its.length∧i=.int .i64 j∧s=.int .i64 (dJ ((its.map Prod.fst).take j):Nat)∧Hid (wr.ownsRow w 3 1 o j (tU (nX 0 ((its.map Prod.fst).take j))))∧Hid (Below w w wr)) (fun _ _ i _=>its.length - (intOf i).toNat)
 case atStart=>exact⟨0,Qi _,rfl,rfl,Hh (Xa _ _ _ _),Hh br⟩
 case round =>
  obtain⟨j,hj,rfl,rfl,HO,HB⟩:=hrel;by_cases hlt:j<its.length
  · obtain⟨x,hx⟩:∃ x,its[j]? = some x:=⟨_,Qb hlt⟩;have htk:(its.map Prod.fst).take (j+1)=(its.map Prod.fst).take j++[x.1]:=by rw[Qo,Ya,hx];rfl
    have hle:=Ek (List.take_prefix (j+1) (its.map Prod.fst));have HIR:=Hh (HI.out.below HB.out);have hat:=HIR.out.has x (Qu hx);obtain⟨_,_,hv,_,hh⟩:=HIR.out.get;cases hv
    obtain⟨g,o,rfl,hgb,hg,hcs⟩:=hh (by rintro rfl;exact absurd hlt (Qw _))
    obtain⟨k0,k1,k2,k3,k4⟩:=hcs j x hx;obtain⟨⟨ki,ra,⟨im,ia⟩,ial⟩,vr,va⟩:=x;dsimp only at k0 k1 k2 k3 k4 hat htk;obtain⟨ar,cr,rfl⟩:=aI hat.raw;obtain⟨aa,ca,rfl⟩:=hat.args.slice;dsimp only at k1 k3;rw[htk,lC,jP] at hle;have hrn:dJ ([]:List It)=0:=rfl;rw[hrn] at hle;dsimp only at hle;have HTK:=Hh htk;generalize hN:dJ ((its.map Prod.fst).take j)=N at *;have HN:=Hh hN;have hi0:(0:Int)≤(j:Int):=om
    have hi1:(j:Int)<(its.length:Int):=om
    have hn0:(0:Int)≤(N:Int)+(ra.length:Int):=om
    have hn1:(N:Int)+(ra.length:Int)≤1000000:=om
    obtain⟨av,cv,rfl⟩:=aI HO.out;clear hh hcs hx hat htk hN hle hrn;go_wp2_with (at_builtin;refine wpList_append_own _ rfl _ _ 44 rfl w 3 i0 (.int .i64 0) 1 8 underlying44 hi hz0 hz1 hz2 rfl dc _ _ _ rfl ((HO.out.alloc _).alloc _) ⟨wr+1,0,none⟩ 1 1 [.int .i64 N] rfl rfl ?c1 ?c2 ?c3 ?c4 ?c5 ?_)
    case c1 =>
     intro q u hq;rw[bD];match q,hq with
     | 0,hq=>simp at hq;subst hq;simp[go_sem]
    case c2=>intro u hu;simp at hu;subst hu;rfl
    case c3=>unfold maxLen;omega
    case c4=>omega
    case c5=>have:=HB.out.size;simp[go_sem];omega
    intro v' w4 hown' hgrow _;obtain⟨g',cap',rfl⟩:=ownsRow_succ hown';have hsz:=HB.out.size;have hb4:Below w w w4:=(HB.out.trans ((show Below wr wr _ from bl).mono hsz)).grown hgrow (by simp[go_sem];omega) (fun q hq=>(HO.out.lt _ hq).1);have hbx:w4.heap[wr.heap.size]? = some (.cells #[ki,.slice ar ra.length cr,im,.slice aa ia.length ca,.bool ial] 55 (0,0)):=(hgrow.block _ (by simp;omega) (fun e=>by have:=(HO.out.lt _ e.symm).2;omega)).trans (aE (aF _ _))
    have HO4:=Hh hown';have HB4:=Hh hb4;obtain⟨⟨q0,q1,q2,q3,q4⟩,_⟩:=bJ hbx;have hlx:=aA hbx;clear hown' hgrow hb4 hbx k0 k1 k2 k3 k4;go_wp2_with fail
    go_roundw
    case rel=>exact⟨j+1,om,by go_num,by rw[HTK.out,lC,HN.out,jP];simp[dJ],Hh (by rw[HTK.out,uR,Of,Xb,HN.out];exact HO4.out),HB4⟩
    case measure=>simp[intOf];omega
  · obtain rfl:j=its.length:=om
    go_wp2_with fail
    go_ret;have ho:=HO.out;rw[Xj sm] at ho;exact⟨_,rfl,ho,HB.out⟩
end
section
open Go.RowKit Go.Sort Go.Shelf
open Go.Proofs.Tryz
attribute [local go_sem] Oper.semAt_some
def iT:Nat→List It→List (Nat × It)
 | _,[]=>[]
 | a,x::l=>(a,x)::iT (a+x.raw.length) l
theorem vR:∀ (a:Nat) (l:List It),(iT a l).length=l.length
 | _,[]=>rfl
 | a,x::l=>by simp[iT,vR (a+x.raw.length) l]
theorem pX:∀ (a:Nat) (l:List It),(iT a l).map Prod.snd=l
 | _,[]=>rfl
 | a,x::l=>by simp[iT,pX (a+x.raw.length) l]
def adX:Nat→List ItX→List (Nat × ItX)
 | _,[]=>[]
 | a,x::l=>(a,x)::adX (a+x.1.raw.length) l
theorem Fk:∀ (a:Nat) (l:List ItX) (i:Nat) (x:ItX),l[i]? = some x→(adX a l)[i]? = some (a+dJ ((l.map Prod.fst).take i),x)
 | a,[],i,x,h=>by simp at h
 | a,y::l,0,x,h=>by simp at h;subst h;simp[adX,dJ]
 | a,y::l,i+1,x,h=>by
   have:=Fk (a+y.1.raw.length) l i x (by simpa using h)
   simp[adX,this,dJ,Yb]
theorem xF:∀ (a:Nat) (l:List ItX),(adX a l).length=l.length
 | _,[]=>rfl
 | a,x::l=>by simp[adX,xF (a+x.1.raw.length) l]
theorem Fj:∀ (a:Nat) (l:List ItX),(adX a l).map (fun x=>(x.1,x.2.1))=iT a (l.map Prod.fst)
 | _,[]=>rfl
 | a,x::l=>by simp[adX,iT,Fj (a+x.1.raw.length) l]
def KpS (S:World→Nat→Prop) (A B:World):Prop:=A.heap.size≤B.heap.size∧(∀ (k:Nat) (o:Obj),A.heap[k]? = some o→o.isCells=true→¬ S A k→B.heap[k]? = some o)∧∀ k,S B k→S A k∨A.heap.size≤k
theorem Vr {S:World→Nat→Prop} {A B C:World} (h:KpS S A B) (k:KpS S B C):KpS S A C :=
 ⟨Qn h.1 k.1,fun q o ho hc hs=>k.2.1 q o (h.2.1 q o ho hc hs) hc (fun hb=>by
  rcases h.2.2 q hb with h1|h1
  · exact hs h1
  · have:=aA ho;omega),fun q hq=>by
  rcases k.2.2 q hq with h1|h1
  · exact h.2.2 q h1
  · exact .inr (Qn h.1 h1)⟩
def SOk (S:World→Nat→Prop) (m:Nat):Prop:=∀ A B,m≤A.heap.size→Below A.heap.size A B→∀ k,S B k→S A k
structure aBG (S:World→Nat→Prop) (m rb addr:Nat) (b:List UInt8) (v:Value) (W:World):Prop where
 cell:W.heap[rb]? = some (.cells #[.int .i64 addr,v] 61 (0,0))
 out:¬ S W rb
 row:Row W v b.length (aT b)
 tab:∀ W',Below W.heap.size W W'→TabsA W'
 lt:∀ k,S W k→k<W.heap.size
 m:m≤W.heap.size
abbrev AdX:=Nat × ItX
theorem Fi (n rb m addr:Nat) (hn:1≤n) (S:World→Nat→Prop) (hS:SOk S m) (b:List UInt8) (v:Value) (hl:b.length≤100000) (ha:addr≤100000) :
 vS Fence.wide n prog 57 #[.pointer rb] (fun x:AdX=>#[.int .i64 x.1,itV x.2.1 x.2.2.1 x.2.2.2]) (KpS S) (fun A B=>Below A A B)
  (aBG S m rb addr b v) (fun x W=>ItAt 0 x.2.1 x.2.2.1 x.2.2.2 W∧x.2.1∈dI b∧x.1≤200000) (fun xs=>xs.map (fun x=>(x.1,x.2.1))=iT addr (dI b)) (fun _=>True) (dI b).length:=by
 intro lp J Jx W hR hJ hJx hY h0;have hbl:=aA hR.cell;have HDEC:=Hh (fun X (hb:Below W W X)=>Dg b v X (hR.row.below hb) hl (fun W' h=>hR.tab W' (hb.trans (h.mono hb.size))));have hdl:(dI b).length≤100000:=Qn (kK b) hl;have hrn:dJ (dI b)≤100000:=by rw[jO];exact hl
 have HR:=Hh hR;have HJ:=Hh hJ;have HY:=Hh hY;have H0:=Hh h0;obtain⟨a,c,rfl,_,_⟩:=hR.row;obtain⟨c0,c1,_,_⟩:=aL hR.cell;generalize dI b=L at *;clear hR hJ hJx hY h0;refine callsIn_of_wp func57 rfl trivial ?_ rfl;simp only[ntmps57,Qx,Qp,Qz,Nat.reduceAdd,Nat.reduceSub,Array.replicate_succ,Array.replicate_zero,List.push_toArray,List.append_toArray,Ye,Xy];gi_wp2_with fail
 refine⟨trivial,?_⟩;refine (callsIn_wide.2 (HDEC.out _ br)).mono ?_;rintro e w1 ⟨vi,its,rfl,hit,hits,hb1⟩;have hil:its.length=L.length:=by rw[←hit,Qs]
 have HOF:=Hh (fun X (hb:Below w1 w1 X)=>Mz its vi W X (hits.below hb) om (by rw[hit];omega));have HIT:=Hh hit;have HITS:=Hh hits;have HB1:=Hh hb1;obtain⟨ai,ci,rfl⟩:=aI hits.own;have HIL:=Hh hil;have HRN:=Hh hrn;have HDL:=Hh hdl;clear hit hits hb1 hil hrn hdl;gi_wp2_with fail
 refine⟨trivial,?_⟩;refine (callsIn_wide.2 (HOF.out _ br)).mono ?_;rintro e w2 ⟨vo,rfl,hof,hb2⟩;obtain⟨ao,co,rfl⟩:=aI hof;rw[HIT.out] at hof;have HITS2:=Hh (HITS.out.below hb2);have HOFF:=Hh (aP hof HB1.out.size);have HB2:=Hh (HB1.out.trans (hb2.mono HB1.out.size));have HJ2:=Hh (HJ.out _ _ _ H0.out HB2.out);have HS2:=Hh (fun k (hk:S w2 k)=>HR.out.lt k (hS _ _ HR.out.m HB2.out k hk));have HRC:=Hh (aB HR.out.cell HB2.out hbl);have HRO:=Hh (fun (hk:S w2 rb)=>HR.out.out (hS _ _ HR.out.m HB2.out rb hk));clear hof hb2 HDEC HOF c0 c1;gi_wp2_with fail
 gi_loopg [12] (its.length+1) (fun k i wr=>∃ (j:Nat),j≤its.length∧i=.int .i64 j∧Hid (J ((adX addr its).take j) wr)∧Hid (lZ W w2 wr)∧Hid (∀ k,S wr k→k<W.heap.size∨w2.heap.size≤k)∧Hid (wr.heap[rb]? = some (.cells #[addr,.slice a b.length c] 61 (0,0)))∧Hid (¬ S wr rb)∧Hid (w2.heap.size≤wr.heap.size)∧its.length - j<k)
 case atStart=>exact⟨0,Qi _,rfl,HJ2,Hh (fun k o _ h _=>h),Hh (fun k hk=>.inl (HS2.out k hk)),HRC,HRO,Hh lr,om⟩
 case round =>
  obtain⟨j,hj,rfl,HJR,HKO,HSR,HRC2,HRO2,HSZ,hk⟩:=hrel;by_cases hlt:j<its.length
  · obtain⟨x,hx⟩:∃ x,its[j]? = some x:=⟨_,Qb hlt⟩;have hits:=HITS2.out.on HKO.out lr;have hat:=hits.has x (Qu hx);obtain⟨_,_,hv,hci,hh⟩:=hits.get;cases hv
    obtain⟨g,o,rfl,_,hg,hcs⟩:=hh (by rintro rfl;exact absurd hlt (Qw _))
    obtain⟨k0,k1,k2,k3,k4⟩:=hcs j x hx;obtain⟨_,_,hv,hco,hh2⟩:=Row.of_owns (lD HOFF.out HKO.out lr);cases hv
    have hol:(tU (nX 0 L)).length=its.length:=by rw[tU,Qs,yN,HIL.out]
    obtain⟨go,oo,rfl,hgo,hocs⟩:=hh2 (by intro e;rw[e] at hol;simp at hol;omega);have ho:=hocs j om;have hoe:(tU (nX 0 L))[j]? = some (.int .i64 (dJ (L.take j):Nat)):=by
     rw[tU,Ya,yO 0 L j (by have:=HIL.out;omega),Xb];rfl
    rw[hoe] at ho;have hag:=Fk addr its j x hx;rw[HIT.out] at hag;have htk:(adX addr its).take (j+1)=(adX addr its).take j++[(addr+dJ (L.take j),x)]:=by rw[Qo,hag];rfl
    have hrl:=Ek (List.take_prefix j L);have hrn2:=HRN.out;generalize hR0:dJ (L.take j)=R at *;obtain⟨⟨ki,ra,⟨im,ia⟩,ial⟩,vr,va⟩:=x;dsimp only at k0 k1 k2 k3 k4 hat;obtain⟨ar,cr,rfl⟩:=aI hat.raw;obtain⟨aa,ca,rfl⟩:=hat.args.slice;have hmem:(⟨ki,ra,(im,ia),ial⟩:It)∈L:=by rw[←HIT.out];exact Zi (Qu hx)
    have hN:((adX addr its).take j).length<L.length:=by rw[Qt,xF];have:=HIL.out;omega
    have HYX:=Hh (fun X (hX:Below wr wr X)=>HY.out ((adX addr its).take j) (addr+R,(⟨ki,ra,(im,ia),ial⟩,.slice ar ra.length cr,.slice aa ia.length ca)) X (HJ.out _ _ _ HJR.out hX) ⟨(hat.below hX).mono (Qi _),hmem,by show addr+R≤200000;omega⟩ hN)
    obtain⟨z0,z1,_,_⟩:=aL HRC2.out;have hlrb:=aA HRC2.out;have HTK:=Hh htk;have hi0:(0:Int)≤(j:Int):=om
    have hi1:(j:Int)<(its.length:Int):=om
    have hr1:(0:Int)≤(addr:Int)+(R:Int):=om
    have hr2:(addr:Int)+(R:Int)≤1000000:=om
    have hwr:IntKind.i64.wrap ((addr:Int)+(R:Int))=(addr:Int)+(R:Int):=IntWalk.i64_in _ om;have hlen9:its.length≤100000:=by have h1:=HIL.out;have h2:=HDL.out;omega
    have hci1:(its.length:Int)≤(ci:Int):=om
    have hco1:(its.length:Int)≤(co:Int):=om
    clear hits hat hh hh2 hcs hocs hol hoe hag htk hrl hrn2 hR0 hN hx hmem;obtain⟨fn,tmps,assign,body,hy,hRY⟩:=HYX.out wr.drew (Below.drew br);have hiv:itV ⟨ki,ra,(im,ia),ial⟩ (.slice ar ra.length cr) (.slice aa ia.length ca)=.agg #[ki,.slice ar ra.length cr,im,.slice aa ia.length ca,.bool ial]:=rfl;dsimp only at hy;rw[hiv,Int.natCast_add] at hy;clear hiv;have hRY2:=hRY.mono (R':=fun e B=>∃ r:Bool,e=.returned (.bool r)∧(r=true→J ((adX addr its).take (j+1)) B∧KpS S wr.drew B)∧(r=false→Jx ((adX addr its).take (j+1)) B)) (fun e B h=>by
     rw[HTK.out];rcases h with⟨rfl,h1,h2⟩|⟨rfl,h1⟩
     · exact⟨true,rfl,fun _=>⟨h1,h2⟩,fun h=>by cases h⟩
     · exact⟨false,rfl,(fun h=>by cases h),fun _=>h1⟩)
    have HRY:=Hh hRY2;clear hRY hRY2;gi_wp2_with fail
    gi_region_with (first|(refine⟨by simp,?_⟩;refine HRY.out.mono ?_;rintro e w7 ⟨r7,rfl,ht,hf⟩)|(refine HRY.out.mono ?_;rintro e w7 ⟨r7,rfl,ht,hf⟩))
    all_goals
     cases r7
     · have hx7:=hf rfl;clear ht hf;gi_wp2_with fail
       refine bodyPost_ret (results_none rfl _ _ _) rfl ?_;exact⟨⟨_,rfl⟩,.inr ⟨_,trivial,hx7⟩⟩
     · obtain⟨hj7,hk7⟩:=ht rfl;clear ht hf;have hmw:m≤wr:=Qn HR.out.m (Qn HB2.out.size HSZ.out);have hSd:∀ k,S wr.drew k→S wr k:=hS wr wr.drew hmw (Below.drew br);have hko:lZ W w2 w7:=fun k o hk ho hc=>hk7.2.1 k o (HKO.out k o hk ho hc) hc (fun hs=>by
        have h2:=aA ho;rcases HSR.out k (hSd k hs) with h|h<;>omega)
       have hsr:∀ k,S w7 k→k<W.heap.size∨w2.heap.size≤k:=fun k hs=>by
        rcases hk7.2.2 k hs with h|h
        · exact HSR.out k (hSd k h)
        · exact .inr (Qn HSZ.out h)
       have hrc7:=hk7.2.1 rb _ HRC2.out rfl (fun hs=>HRO2.out (hSd _ hs));have hro7:¬ S w7 rb:=fun h=>by
        rcases hk7.2.2 rb h with h1|h1
        · exact HRO2.out (hSd rb h1)
        · change wr.heap.size≤rb at h1;omega
       have hsz7:w2.heap.size≤w7.heap.size:=Qn HSZ.out hk7.1;have HJ7:=Hh hj7;have HK7:=Hh hko;have HS7:=Hh hsr;have HC7:=Hh hrc7;have HO7:=Hh hro7;have HZ7:=Hh hsz7;clear hj7 hk7 hko hsr hrc7 hro7 hsz7 hSd hmw hy HRY z0 z1 k0 k1 k2 k3 k4 ho;gi_wp2_with fail
       gi_roundg (its.length - j)
       case measure=>exact hk
       case rel=>exact⟨j+1,om,by go_num,HJ7,HK7,HS7,HC7,HO7,HZ7,om⟩
  · obtain rfl:j=its.length:=om
    have hjr:=HJR.out;rw[Xj (by rw[xF];exact Qk _)] at hjr;have HJE:=Hh hjr;clear hjr;gi_wp2_with fail
    go_end0
    exact⟨⟨_,rfl⟩,.inl ⟨adX addr its,by rw[Fj,HIT.out],HJE.out⟩⟩
end
section
open Go.RowKit Go.Sort
open Go.Proofs.Tryz
section
variable {P:Program} (w:World)
theorem aCb (base:Nat) (t u ty e:TypeId) (i:TypeInfo) (ht:P.underlying t=some (.slice e)) (hu:P.underlying u=some .string) (hi:P.info? e=some i) (hz:i.zero=some (.int .u8 0)) (hsize:i.size=1) (hby:i.bytes=1)
 (v:Value) (n:Nat) (xs:List Value) (hown:w.ownsRow base e 1 v n xs) (s:ByteArray) (h63:n+s.size≤maxLen) (hbytes:n+s.size≤140737488355328) (v':Value) (w':World)
 (hr:(Builtin.append_ #[t,u] ty #[v,.string s]).run P w=.ok v' w') (h4:v'=.slice none 0 0↔v=.slice none 0 0∧s.size=0):v'.ownBlock=v.ownBlock∨v'.ownBlock=some w.heap.size:=by
 have hsmall:n+s.size≤9223372036854775807:=by simp only[maxLen] at h63;omega
 have hxl:xs.length=n:=by simpa using hown.1
 rcases hown.2 with⟨rfl,rfl⟩|⟨g,cap,cur,rfl,hbg,hg,hnc,hcm,hcs,htake⟩
 · by_cases hm:s.size=0
   · rw[h4.2 ⟨rfl,hm⟩];exact .inl rfl
   · have hr2:=run_append_nil_string (P:=P) w t u ty e i (.int .u8 0) ht hu hi hz s om om (by rw[hby];omega);rw[hr2] at hr;injection hr with h1 h2
     subst h1;exact .inr rfl
 · by_cases hroom:n+s.size≤cap
   · have hcs':cur.size=cap:=by simpa using hcs
     have hr2:=Lib.run_append_room_string (P:=P) w t u ty e i ht hu hi hsize g n cap cur hg s hroom om;rw[hr2] at hr;injection hr with h1 h2
     subst h1;exact .inl rfl
   · have holds:∀ j u,xs[j]? = some u→w.cell? ((⟨g,0,none⟩:Addr).add j)=some u:=hown.cells (g:=g) rfl;have hr2:=Lib.run_append_grow_string (P:=P) w t u ty e i (.int .u8 0) ht hu hi hz ⟨g,0,none⟩ n cap xs (by rw[hsize];simpa using hxl) holds s om om (by rw[hby];exact growslice_fits om om)
     rw[hr2] at hr;injection hr with h1 h2
     subst h1;exact .inr rfl
theorem oY {ops:Array Oper} {rest:List Oper} {o:Oper} {a:Act} {Q:Exit→Act→World→Prop} (hgd:o.guard=none) (sl x:Operand) (t u:TypeId)
 (ho:o.op=.call { callee:=.builtin .append,args:=#[sl,x],argTypes:=#[t,u] })
 (base:Nat) (e:TypeId) (i:TypeInfo) (ht:P.underlying t=some (.slice e)) (hu:P.underlying u=some .string) (hi:P.info? e=some i) (hz:i.zero=some (.int .u8 0))
 (hsize:i.size=1) (hby:i.bytes=1)
 (v:Value) (n:Nat) (xs:List Value) (hs:a.eval sl=v) (hown:w.ownsRow base e 1 v n xs) (s:ByteArray) (hx:a.eval x=.string s)
 (h63:n+s.size≤maxLen) (hbytes:n+s.size≤140737488355328) (hbase:base≤w)
 (h:∀ v' w',w'.ownsRow base e 1 v' (n+s.size) (xs++Lib.strCells s)→w.grownBy w' v.ownBlock→(v'.ownBlock=v.ownBlock∨v'.ownBlock=some w.heap.size)→wpList P ops Q rest (a.put o.dst v') w'):wpList P ops Q (o::rest) a w:=by
 refine wpList_plain hgd fun K hK=>?_;obtain⟨v',w',hr,h2,h3,h4⟩:=Lib.run_append_own_string (P:=P) w base t u o.type e i ht hu hi hz hsize hby v n xs hown s h63 hbytes hbase;have h5:=aCb w base t u o.type e i ht hu hi hz hsize hby v n xs hown s h63 hbytes v' w' hr h4;unfold Oper.wp execOp;simp only[ho,resolve,invoke,builtin,Sem.run_bind,Sem.run_pure,Result.andThen_ok,List.map_toArray,Xt,List.map_nil,hs,hx,hr];exact hK _ _ (h v' w' h2 h3 h5)
end
def SB (b:Nat) (W:World) (k:Nat):Prop:=∃ p v,W.heap[b]? = some (.cells #[p,v] 77 (0,0))∧(k=b∨v.ownBlock=some k)
theorem fY {b:Nat} {W:World} {p v:Value} (h:W.heap[b]? = some (.cells #[p,v] 77 (0,0))) (k:Nat):SB b W k↔k=b∨v.ownBlock=some k:=by
 constructor
 · rintro⟨p',v',hb,hk⟩;rw[h] at hb;cases hb
   exact hk
 · exact fun hk=>⟨p,v,h,hk⟩
theorem Lv {b:Nat} {W W':World} (h:∀ o,W'.heap[b]? = some o→W.heap[b]? = some o∨∃ c T fz,o=.cells c T fz∧T≠77) (k:Nat) (hs:SB b W' k):SB b W k:=by
 obtain⟨p,v,hb,hk⟩:=hs;rcases h _ hb with h1|⟨c,T,fz,h1,h2⟩
 · exact⟨p,v,h1,hk⟩
 · cases h1;exact absurd rfl h2
theorem aPz {b l:Nat} {W:World} (o':Obj) (h:b≠l) (k:Nat) (hs:SB b (W.putObj l o') k):SB b W k:=Lv (fun o ho=>.inl (by rw[←ho];exact (World.putObj_heap_other om).symm)) k hs
theorem Ly {b:Nat} {W:World} {c:Array Value} {T:TypeId} {fz:Nat × Nat} (hT:T≠77) (k:Nat) (hs:SB b (W.alloc (.cells c T fz)) k):SB b W k:=Lv (fun o ho=>by
 by_cases hb:b<W
 · left
   rw[←ho];exact (Below.heap_alloc _ _ _ hb).symm
 · have hl:=aA ho;rw[Qa] at hl;obtain rfl:b=W.heap.size:=om
   rw[aF] at ho;exact .inr ⟨c,T,fz,(Xi ho).symm,hT⟩) k hs
def KpA (S:World→Nat→Prop) (A B:World):Prop:=A.heap.size≤B.heap.size∧(∀ (k:Nat) (o:Obj),A.heap[k]? = some o→¬ S A k→B.heap[k]? = some o)∧∀ k,S B k→S A k∨A.heap.size≤k
theorem Vs {S:World→Nat→Prop} {A B C:World} (h:KpA S A B) (k:KpA S B C):KpA S A C :=
 ⟨Qn h.1 k.1,fun q o ho hs=>k.2.1 q o (h.2.1 q o ho hs) (fun hb=>by
  rcases h.2.2 q hb with h1|h1
  · exact hs h1
  · have:=aA ho;omega),fun q hq=>by
  rcases k.2.2 q hq with h1|h1
  · exact h.2.2 q h1
  · exact .inr (Qn h.1 h1)⟩
theorem Vt {S:World→Nat→Prop} {A B:World} (h:KpA S A B):KpS S A B:=⟨h.1,fun k o ho _ hs=>h.2.1 k o ho hs,h.2.2⟩
theorem He {S:World→Nat→Prop} {m:Nat} {A B:World} (hS:SOk S m) (hm:m≤A) (h:Below A A B):KpA S A B :=
 ⟨h.size,fun _ _ ho _=>aB ho h (aA ho),fun k hk=>.inl (hS A B hm h k hk)⟩
theorem mM:(prog.info? 77).map (·.size)=some 2:=by kernel_rfl
theorem tT:liesAt prog prog.depth 77 (2/prog.cellsOf 77) 0 77 1=true:=by kernel_rfl
theorem nJ (b:Nat) (w:World) (h0:w.cell? b=some (.pointer b)) :
 Calls prog 69 #[.pointer b] w fun e w'=>e=.returned (.tuple #[])∧w'=w:=by
 obtain⟨j,hj,_⟩:=Qr.1 mM;go_enter func69,ntmps69
 go_wp2
 rw[Lib.run_neq_ptr_same w _ underlying75 hj];go_wp2
 go_end0
 exact⟨rfl,rfl⟩
theorem mK (b:Nat) (w:World) (h0:w.cell? b=some (.pointer none)) (hsh:w.shape? b=some (77,2)) (hfz:w.frozen? ⟨b,0,none⟩=false) :
 Calls prog 69 #[.pointer b] w fun e w'=>e=.returned (.tuple #[])∧w'=w.setCell b (.pointer b):=by
 obtain⟨j,hj,hjs⟩:=Qr.1 mM;go_enter func69,ntmps69
 go_wp2
 rw[Lib.run_to_unsafe w ⟨b,0,none⟩ underlying75 underlying175 hj (by rw[hjs];decide) hsh (Nat.zero_lt_succ 1)];simp only[Result.andThen];rw[Oper.upon_value];go_wp2
 rw[run_callFunc_extern func108 kr kr kr (e:=Extern.AbiNoEscape.same) kr];rw[Lib.run_noEscape];simp only[Result.andThen];rw[Oper.upon_value];go_wp2
 rw[Lib.run_from_unsafe w ⟨b,0,none⟩ underlying175 underlying75 hj hsh tT];simp only[Result.andThen];rw[Oper.upon_value];go_wp2
 go_end0
 exact⟨rfl,rfl⟩
abbrev IsB (B b:Nat) (bs:List Value) (w:World):Prop:=Lib.IsBuilder 77 5 B b bs w
abbrev BAt (B b:Nat) (p:Value) (bs:List Value) (w:World):Prop:=Lib.BuilderAt 77 5 B b p bs w
theorem Pz (B b:Nat) (bs:List Value) (w:World) (h:IsB B b bs w) :
 Calls prog 69 #[.pointer b] w fun e w'=>e=.returned (.tuple #[])∧(BAt B b (.pointer b) bs w'∧Below B w w'∧KpA (SB b) w w'):=by
 rcases h with h|h
 · refine (mK b w h.cell0 h.shape h.frozen0).mono ?_;rintro e w' ⟨rfl,rfl⟩;refine⟨rfl,h.used _,(Below.refl B w).setCell (p:=b) h.1 _,by rw[setCell_size];exact Qk _,fun k o ho hs=>aD ho (fun e=>hs (by obtain⟨_,v,hb,_⟩:=h;exact (fY hb k).2 (.inl e))),fun k hk=>.inl ?_⟩
   obtain⟨_,v,hb,_⟩:=h;have h2:=aG (i:=0) (v:=.pointer b) hb;exact (fY hb k).2 ((fY h2 k).1 hk)
 · refine (nJ b w h.cell0).mono ?_;rintro e w' ⟨rfl,rfl⟩;exact⟨rfl,h,Below.refl B _,Qk _,fun _ _ ho _=>ho,fun k hk=>.inl hk⟩
theorem aPc (B b:Nat) (bs:List Value) (s:ByteArray) (w:World) (h:IsB B b bs w) (hlen:bs.length+s.size≤140737488355328) (hBw:B≤w) :
 Calls prog 38 #[.pointer b,.string s] w fun e w'=>e=.returned (.tuple #[s.size,.nilIface])∧(BAt B b (.pointer b) (bs++Lib.strCells s) w'∧Below B w w'∧KpA (SB b) w w'):=by
 obtain⟨i0,hi,hz0,hz1,hz2⟩:=info_parts Tryz.infoByte;go_enter func38,ntmps38
 go_wp2_with (refine (Pz B b bs _ h).mono ?_)
 rintro e w1 ⟨rfl,h1,hb1,hkp1⟩;obtain⟨hB,v,hbk,hown,hne⟩:=h1;have c0:w1.cell? b=some (.pointer b):=by rw[Lib.cell_of_heap hbk];rfl
 have c1:w1.cell? ⟨b,1,none⟩=some v:=by rw[Lib.cell_of_heap hbk];rfl
 go_wp2_with (at_builtin;refine oY _ rfl _ _ 33 9 rfl B 5 i0 underlying33 underlying9 hi hz0 hz1 hz2 _ _ _ rfl hown s rfl ?c3 ?c4 ?c5 ?_)
 case c3=>unfold maxLen;omega
 case c4=>omega
 case c5=>have:=hb1.size;omega
 intro v' w2 hown' hgrow hat;have hlt:b<w1:=by
  rcases Zb b w1.heap.size with h' | h'
  · exact h'
  · simp[Array.getElem?_eq_none h'] at hbk
 have hb2:w2.heap[b]? = some (.cells #[.pointer b,v] 77 (0,0)):=by
  rw[hgrow.block b hlt (fun e=>hne e.symm)];exact hbk
 have d0:w2.cell? b=some (.pointer b):=by rw[Lib.cell_of_heap hb2];rfl
 have d1:w2.cell? ⟨b,1,none⟩=some v:=by rw[Lib.cell_of_heap hb2];rfl
 have f1:w2.frozen? ⟨b,1,none⟩=false:=Lib.frozen_of_heap hb2 1;obtain⟨ao,n',cap,rfl⟩:∃ ao n' cap,v'=.slice ao n' cap:=by
  rcases hown'.2 with⟨hv,_⟩|⟨g,cap,cur,hv,_⟩
  · exact⟨_,_,_,hv⟩
  · exact⟨_,_,_,hv⟩
 have HAT:=Hh hat;have HKP:=Hh hkp1;clear hat hkp1;go_wp2
 go_ret2;refine⟨rfl,?_,?_,Vs HKP.out ⟨by rw[setCell_size];exact hgrow.size,fun k o ho hs=>?_,fun k hk=>?_⟩⟩
 · exact Lib.BuilderAt.put (T:=77) (e:=5) hB hb2 (bs':=bs++Lib.strCells s) (by simpa[Lib.strCells_length] using hown') dc
 · exact (hb1.grown hgrow (by have:=hb1.size;omega) (fun k hk=>(hown.lt k hk).1)).setCell (p:=⟨b,1,none⟩) hB _
 · have hkb:k≠b:=fun e=>hs ((fY hbk k).2 (.inl e));exact aD ((hgrow.block k (aA ho) (fun e=>hs ((fY hbk k).2 (.inr e.symm)))).trans ho) hkb
 · have h2:=aG (i:=1) (v:=.slice ao n' cap) hb2;rcases (fY h2 k).1 hk with h3|h3
   · exact .inl ((fY hbk k).2 (.inl h3))
   · rcases HAT.out with h4|h4
     · rw[h4] at h3;exact .inl ((fY hbk k).2 (.inr h3))
     · rw[h4] at h3;exact .inr (Zw (Xi h3))
end
section
open Go.RowKit Go.Sort
open Go.Proofs.Tryz
def aKz (C:List Cl):Int→Nat→List UInt8
 | _,0=>[]
 | a,k+1=>match aKW C a with|some b=>b::aKz C (a+1) k|none=>[]
theorem aKF (C:List Cl):∀ (k:Nat) (a:Int),(aKz C a k).length≤k
 | 0,_=>Qi _
 | k+1,a=>by
   unfold aKz;split
   · have:=aKF C k (a+1);rw[Qp];omega
   · exact Qi _
theorem aLz (C:List Cl) (a:Int) (k:Nat) (b:UInt8) (h:aKW C a=some b):aKz C a (k+1)=b::aKz C (a+1) k:=by rw[aKz,h]
theorem aLy (C:List Cl) (a:Int) (k:Nat) (h:aKW C a=none):aKz C a k=[]:=by
 cases k with
 | zero=>rfl
 | succ k=>rw[aKz,h]
theorem aOa (l:List Int) (v:Value) (n:Int) (w:World) (hv:Row w v l.length (aBQ l)) (hl:l.length≤100000) :
 Calls prog 76 #[v,n] w fun e w'=>e=.returned (.bool (decide (n∈l)))∧w=w':=by
 obtain⟨R,hR⟩:∃ R,decide (n∈l)=R:=⟨_,rfl⟩;rw[hR];have HR:=Hh hR;obtain⟨a,c,rfl,hcap,hh⟩:=hv;have HH:=Hh hh;have hcc:(l.length:Int)≤(c:Int):=om
 clear hh hR hcap;go_enter func76,ntmps76
 go_wp2_with fail
 go_loopw [5] (fun i wr=>wr=w∧∃ j:Nat,j≤l.length∧i=.int .i64 j∧Hid (∀ y∈l.take j,y≠n)) (fun i _=>l.length - (intOf i).toNat)
 case atStart=>exact⟨rfl,0,Qi _,rfl,Hh sm⟩
 case round =>
  obtain⟨rfl,j,hj,rfl,HN⟩:=hrel;by_cases hlt:j<l.length
  · obtain⟨x,hx⟩:∃ x,l[j]? = some x:=⟨_,Qb hlt⟩;obtain⟨g,o,rfl,hg,hcs⟩:=HH.out (by intro e;have h1:=congrArg List.length e;rw[aBQ,Qs,Qz] at h1;omega);have k0:wr.cell? ⟨g,o+j,none⟩=some (.int .i64 x):=by
     have:=hcs j (by simp[aBQ];exact hlt)
     rw[this];simp[aBQ,hx]
    have hi0:(0:Int)≤(j:Int):=om
    have hi1:(j:Int)<(l.length:Int):=om
    by_cases he:x=n
    · subst he;obtain rfl:true=R:=by rw[←HR.out,Qh (Qu hx)]
      clear hcs hx HR HN;go_wp2_with fail
      go_ret;exact⟨rfl,rfl⟩
    · have hne:(x == n)=false:=by simpa using he
      have HN2:=Hh (show ∀ y∈l.take (j+1),y≠n from by
       intro y hy;rw[Qo,hx] at hy;rcases Xs.1 hy with h1|h1
       · exact HN.out y h1
       · simp at h1;subst h1;exact he)
      clear hcs hx he;go_wp2_with fail
      go_roundw
      case rel=>exact⟨trivial,j+1,om,by go_num,HN2⟩
      case measure=>simp[intOf];omega
  · obtain rfl:j=l.length:=om
    obtain rfl:false=R:=by
     rw[←HR.out,Qg];intro h
     have:=HN.out
     rw[Qy] at this;exact this n h rfl
    clear HR HN;go_wp2_with fail
    go_ret;exact⟨rfl,rfl⟩
theorem aMl (W:World) (b:UInt8):eR (W.alloc (.cells #[.int .u8 b.toNat] 5)) (.slice W 1 1) 1 (aT [b]):=.inr ⟨⟨W,0,none⟩,1,rfl,fun j u hu=>by
 rw[bD,Xb,aC (aF _ _)];match j,hu with
 | 0,hu=>simpa[aT] using hu⟩
theorem aMw (l m:List UInt8):aT (l++m)=aT l++aT m:=by simp[aT]
theorem aLY (l:List UInt8):∀ u∈aT l,u.oneCell'=true:=fun u hu=>by
 simp only[aT,Yo] at hu;obtain⟨b,_,rfl⟩:=hu;rfl
theorem aLI (C:List Cl) (v:Value) (a:Int) (w:World) (hv:Row w v C.length (clc C)) (hC:Asc C) (hl:C.length≤100000) (ha:-100000≤a) (ha2:a≤100000) :
 Calls prog 42 #[v,a] w fun e w'=>∃ vr va,e=.returned (.tuple #[itV (bX (aKz C a 4)) vr va,.bool (!(aKz C a 4).isEmpty)])∧ItAt w (bX (aKz C a 4)) vr va w'∧Below w w w':=by
 obtain⟨i0,hji,hz0,hz1,hz2⟩:=info_parts Tryz.infoByte;have HG:=Hh (fun x X (hb:Below w w X)=>aNn C v x X (hv.below hb) hC hl);obtain⟨B,hB⟩:∃ B,aKz C a 4=B:=⟨_,rfl⟩;rw[hB];have hBl:B.length≤4:=by rw[←hB];exact aKF C 4 a
 have HB:=Hh hB;have HF:=Hh (fun u X (h:Row X u B.length (aT B)) (hne:B≠[])=>zN B u X h hne om);obtain⟨av,cv,rfl,_,_⟩:=hv;clear hC hl hB;go_enter func42,ntmps42
 go_upto_block 0 with fail
 have hb0:Below w w (w.alloc (.cells #[(0:Int),zz,(),zz,.bool false] 55)):=br.alloc lr _;have HB0:=Hh hb0;have HX0:=Hh (aF w (.cells #[(0:Int),zz,(),zz,.bool false] 55));clear hb0;go_cut [6] (fun t wx=>∃ ao co,t=.slice ao B.length co∧Hid (wx.ownsRow (w.heap.size+1) 5 1 (.slice ao B.length co) B.length (aT B))∧Hid (wx.heap[w.heap.size]? = some (.cells #[(0:Int),zz,(),zz,.bool false] 55 (0,0)))∧Hid (Below w w wx))
 case first =>
  go_wp2_with fail
  go_loopw [6,7] (fun t i wr=>∃ (j:Nat) (ao:Option Addr) (co:Nat) (xs:List UInt8),j≤4∧i=.int .i64 j∧t=.slice ao xs.length co∧xs.length=j∧Hid (wr.ownsRow (w.heap.size+1) 5 1 (.slice ao xs.length co) xs.length (aT xs))∧Hid (wr.heap[w.heap.size]? = some (.cells #[(0:Int),zz,(),zz,.bool false] 55 (0,0)))∧Hid (Below w w wr)∧Hid (xs++aKz C (a+j) (4 - j)=B)) (fun _ i _=>4 - (intOf i).toNat)
  case atStart=>exact⟨0,none,0,[],om,rfl,rfl,rfl,Hh (Xa _ _ _ _),HX0,HB0,Hh (by simpa using HB.out)⟩
  case round =>
   obtain⟨j,ao,co,xs,hj,rfl,rfl,hxl,HO,HX,HBW,HE⟩:=hrel;by_cases hlt:j<4
   · obtain⟨g,hg⟩:∃ g,aKW C (a+j)=g:=⟨_,rfl⟩;have hget:=HG.out (a+j) wr HBW.out;rw[hg] at hget;have HGT:=Hh hget;have hjl:(j:Int)<4:=om
     have hxs:xs.length≤4:=om
     have HXL:=Hh hxl;clear hget hxl;cases g with
     | none =>
       have hbx:xs=B:=by rw[←HE.out,aLy C _ _ hg,Zd]
       have HBX:=Hh hbx;clear hbx hg;go_wp2_with fail
       refine HGT.out.mono ?_;rintro e w1 ⟨rfl,rfl⟩;go_wp2_with fail
       go_meet
       case rel =>
        obtain rfl:=HBX.out;exact⟨ao,co,rfl,HO,HX,HBW⟩
     | some b =>
       have hbx:(xs++[b])++aKz C (a+(j+1:Nat)) (4 - (j+1))=B:=by
        rw[←HE.out,show 4 - j=(4 - (j+1))+1 by omega,aLz C _ _ b hg,Yc,List.singleton_append]
        congr 3
        omega
       have HBX:=Hh hbx;have hbs:=HBW.out.size;have hbs1:=aA HX.out;clear hbx hg;go_wp2_with fail
       refine HGT.out.mono ?_;rintro e w1 ⟨rfl,rfl⟩;go_wp2_with (at_builtin;refine fK rfl _ _ 33 rfl (w.heap.size+1) 5 i0 (.int .u8 0) 1 1 underlying33 hji hz0 hz1 hz2 rfl dc _ _ _ rfl (bK HO.out ((Below.refl wr wr).alloc lr _)) _ _ _ rfl (aMl _ b) rfl (aLY _) (by unfold maxLen;omega) om (by rw[Qa];omega) ?_)
       intro v' w2 ho1 hg1 _;obtain⟨a1,c1,rfl⟩:=aI ho1;have hb1:=(HBW.out.alloc (o:=.cells #[.int .u8 b.toNat] 5) hbs).grown hg1 (by rw[Qa];omega) (fun q hq=>by have:=(HO.out.lt q hq).1;omega)
       have hx1:=(hg1.block w (by rw[Qa];omega) (fun e=>by have:=(HO.out.lt _ e.symm).1;omega)).trans (aE (o':=.cells #[.int .u8 b.toNat] 5) HX.out)
       rw[←aMw] at ho1;have HO1:=Hh ho1;have HB1:=Hh hb1;have HX1:=Hh hx1;clear ho1 hg1 hb1 hx1;go_wp2_with fail
       go_roundw
       case rel=>exact⟨j+1,a1,c1,xs++[b],om,by go_num,by rw[Qc];rfl,by rw[Qc,HXL.out];rfl,Hh (by rw[Qc];exact HO1.out),HX1,HB1,HBX⟩
       case measure=>simp[intOf];omega
   · obtain rfl:j=4:=om
     have hbx:xs=B:=by rw[←HE.out];simp[aKz]
     have HBX:=Hh hbx;clear hbx hxl;go_wp2_with fail
     go_meet
     case rel =>
      obtain rfl:=HBX.out;exact⟨ao,co,rfl,HO,HX,HBW⟩
 case rest =>
 obtain⟨ao,co,rfl,HO,HX,HBW⟩:=hcut;by_cases hB0:B=[]
 · subst hB0;have HXE:=HX;obtain⟨⟨p0,p1,p2,p3,p4⟩,q0,q1,q2,q3,q4⟩:=bJ HX.out;have hl0:=aA HX.out;dsimp only[List.length_nil];go_wp2_with fail
   generalize hF:World.setCell (World.setCell (World.setCell (World.setCell (World.setCell wc _ _) _ _) _ _) _ _) _ _=F;have hk:Kb w wc F:=by rw[←hF];exact cN _ _ _ _ _ _
   have hfx:F.heap[w.heap.size]? = some (.cells #[(0:Int),zz,(),zz,.bool false] 55 (0,0)):=by rw[←hF];exact aG (aG (aG (aG (aG HXE.out))))
   have hbf:=bS HBW.out HBW.out.size hk lr;have hia:ItAt w ⟨0,[],([],[]),false⟩ (.slice none 0 0) (.slice none 0 0) F:=⟨Xa _ _ _ _,ORow.nil _ _,fun _=>.inr trivial⟩;clear hF hk;obtain⟨⟨r0,r1,r2,r3,r4⟩,_⟩:=bJ hfx;have hlf:=aA hfx;exact bodyPost_ret (v:=.tuple #[.agg #[(0:Int),zz,(),zz,.bool false],.bool false]) (by simp[results,results42,go_sem,r0,r1,r2,r3,r4]) rfl ⟨_,_,rfl,hia,hbf⟩
 · have hlen:((B.length:Int) == 0)=false:=by
    have:=Yu.2 hB0
    simp;omega
   have hfr:=HF.out (.slice ao B.length co) wc (Row.of_owns HO.out) hB0;have hem:B.isEmpty=false:=by simpa using hB0
   have HFR:=Hh hfr;clear hfr hB0;go_wp2_with fail
   refine HFR.out.mono ?_;rintro e w3 ⟨vr,va,rfl,hia3,hb3⟩;have HB3:=Hh (HBW.out.trans (hb3.mono HBW.out.size));have HXE:=Hh (aB HX.out hb3 (aA HX.out));have hlw:=aA HX.out;have HI3:=Hh hia3;obtain⟨⟨ki,ra,⟨im,ia⟩,ial⟩,hit⟩:∃ x,bX B=x:=⟨_,rfl⟩;rw[hit] at HI3 ⊢;obtain⟨ar,cr,rfl⟩:=aI HI3.out.raw;obtain⟨aa,ca,rfl⟩:=aI HI3.out.args.own;obtain⟨⟨p0,p1,p2,p3,p4⟩,q0,q1,q2,q3,q4⟩:=bJ HXE.out;have hl0:=aA HXE.out;have HLW:=Hh hlw;have HEM:=Hh hem;have HIT:=Hh hit;clear hb3 hia3 hit hlw hem;dsimp only[itV] at HI3 ⊢;go_wp2_with fail
   generalize hF:World.setCell (World.setCell (World.setCell (World.setCell (World.setCell w3 _ _) _ _) _ _) _ _) _ _=F;have hk:Kb w w3 F:=by rw[←hF];exact cN _ _ _ _ _ _
   have hfx:F.heap[w.heap.size]? = some (.cells #[ki,.slice ar ra.length cr,im,.slice aa ia.length ca,.bool ial] 55 (0,0)):=by rw[←hF];exact aG (aG (aG (aG (aG HXE.out))))
   have hbf:=bS HB3.out HB3.out.size hk lr;have hia:ItAt w ⟨ki,ra,(im,ia),ial⟩ (.slice ar ra.length cr) (.slice aa ia.length ca) F:=⟨bR (Kb.owns HI3.out.raw hk (fun e=>by have:=(HI3.out.raw.lt _ e).1;have:=HLW.out;omega)) (Xr HLW.out),(dV HI3.out.args hk HLW.out).mono (Xr HLW.out),fun _=>.inr trivial⟩
   clear hF hk;obtain⟨⟨r0,r1,r2,r3,r4⟩,_⟩:=bJ hfx;have hlf:=aA hfx;exact bodyPost_ret (v:=.tuple #[.agg #[ki,.slice ar ra.length cr,im,.slice aa ia.length ca,.bool ial],.bool true]) (by simp[results,results42,go_sem,r0,r1,r2,r3,r4]) rfl ⟨.slice ar ra.length cr,.slice aa ia.length ca,by rw[HEM.out,HIT.out];rfl,by rw[HIT.out];exact hia,hbf⟩
def aOQ:Value→Nat
 | .slice _ n _=>n
 | _=>0
theorem aLX (b:Nat) (C:List Cl) (a:Int) (w:World) (hIm:ImgAt b C w) (hT:∀ W,Below w w W→TabsA W) (ha:-100000≤a) (ha2:a≤100000) :
 Calls prog 37 #[.pointer b,a] w fun e w'=>∃ vr va,e=.returned (.tuple #[itV (bX (aKz C a 4)) vr va,.bool (!(aKz C a 4).isEmpty)])∧ItAt w (bX (aKz C a 4)) vr va w'∧Below w w w':=by
 obtain⟨i0,hji,hz0,hz1,hz2⟩:=info_parts Tryz.infoByte;have HG:=Hh (fun x X (hb:Below w w X)=>aOc b C x X (hIm.below hb hIm.raw.lt));obtain⟨B,hB⟩:∃ B,aKz C a 4=B:=⟨_,rfl⟩;rw[hB];have hBl:B.length≤4:=by rw[←hB];exact aKF C 4 a
 have HB:=Hh hB;have HF:=Hh (fun ao co X (hb:Below w w X) (h:Row X (.slice ao B.length co) B.length (aT B))=>Il B ao co X h om (fun W hb2=>hT W (hb.trans (hb2.mono hb.size))));unfold An at HF;clear hIm hT hB;go_enter func37,ntmps37
 go_upto_block 0 with fail
 have hb0:Below w w (w.alloc (.cells #[(0:Int),zz,(),zz,.bool false] 55)):=br.alloc lr _;have HB0:=Hh hb0;have HX0:=Hh (aF w (.cells #[(0:Int),zz,(),zz,.bool false] 55));clear hb0;go_cut [6] (fun t wx=>∃ ao co,t=.slice ao B.length co∧Hid (wx.ownsRow (w.heap.size+1) 5 1 (.slice ao B.length co) B.length (aT B))∧Hid (wx.heap[w.heap.size]? = some (.cells #[(0:Int),zz,(),zz,.bool false] 55 (0,0)))∧Hid (Below w w wx))
 case first =>
  go_wp2_with fail
  go_loopw [6] (fun t wr=>∃ (j:Nat) (ao:Option Addr) (co:Nat) (xs:List UInt8),j≤4∧t=.slice ao xs.length co∧xs.length=j∧Hid (wr.ownsRow (w.heap.size+1) 5 1 (.slice ao xs.length co) xs.length (aT xs))∧Hid (wr.heap[w.heap.size]? = some (.cells #[(0:Int),zz,(),zz,.bool false] 55 (0,0)))∧Hid (Below w w wr)∧Hid (xs++aKz C (a+j) (4 - j)=B)) (fun t _=>4 - aOQ t)
  case atStart=>exact⟨0,none,0,[],om,rfl,rfl,Hh (Xa _ _ _ _),HX0,HB0,Hh (by simpa using HB.out)⟩
  case round =>
   obtain⟨_,ao,co,xs,hj,rfl,rfl,HO,HX,HBW,HE⟩:=hrel;by_cases hlt:xs.length<4
   · obtain⟨g,hg⟩:∃ g,aKW C (a+xs.length)=g:=⟨_,rfl⟩;have hget:=HG.out (a+xs.length) wr HBW.out;rw[hg] at hget;have HGT:=Hh hget;have hjl:(xs.length:Int)<4:=om
     clear hget;cases g with
     | none =>
       have hbx:xs=B:=by rw[←HE.out,aLy C _ _ hg,Zd]
       have HBX:=Hh hbx;clear hbx hg;go_wp2_with fail
       refine HGT.out.mono ?_;rintro e w1 ⟨rfl,rfl⟩;go_wp2_with fail
       go_meet
       case rel =>
        obtain rfl:=HBX.out;exact⟨ao,co,rfl,HO,HX,HBW⟩
     | some b =>
       have hbx:(xs++[b])++aKz C (a+(xs.length+1:Nat)) (4 - (xs.length+1))=B:=by
        rw[←HE.out,show 4 - xs.length=(4 - (xs.length+1))+1 by omega,aLz C _ _ b hg,Yc,List.singleton_append]
        congr 3
        omega
       have HBX:=Hh hbx;have hbs:=HBW.out.size;have hbs1:=aA HX.out;clear hbx hg;go_wp2_with fail
       refine HGT.out.mono ?_;rintro e w1 ⟨rfl,rfl⟩;go_wp2_with (at_builtin;refine fK rfl _ _ 33 rfl (w.heap.size+1) 5 i0 (.int .u8 0) 1 1 underlying33 hji hz0 hz1 hz2 rfl dc _ _ _ rfl (bK HO.out ((Below.refl wr wr).alloc lr _)) _ _ _ rfl (aMl _ b) rfl (aLY _) (by unfold maxLen;omega) om (by rw[Qa];omega) ?_)
       intro v' w2 ho1 hg1 _;obtain⟨a1,c1,rfl⟩:=aI ho1;have hb1:=(HBW.out.alloc (o:=.cells #[.int .u8 b.toNat] 5) hbs).grown hg1 (by rw[Qa];omega) (fun q hq=>by have:=(HO.out.lt q hq).1;omega)
       have hx1:=(hg1.block w (by rw[Qa];omega) (fun e=>by have:=(HO.out.lt _ e.symm).1;omega)).trans (aE (o':=.cells #[.int .u8 b.toNat] 5) HX.out)
       rw[←aMw] at ho1;have HO1:=Hh ho1;have HB1:=Hh hb1;have HX1:=Hh hx1;clear ho1 hg1 hb1 hx1;go_wp2_with fail
       go_roundw
       case rel=>exact⟨xs.length+1,a1,c1,xs++[b],om,by rw[Qc];rfl,by rw[Qc];rfl,Hh (by rw[Qc];exact HO1.out),HX1,HB1,HBX⟩
       case measure=>simp[aOQ];omega
   · have h4:xs.length=4:=om
     have hbx:xs=B:=by rw[←HE.out,h4];simp[aKz]
     have hnl:¬ (xs.length:Int)<4:=om
     have HBX:=Hh hbx;clear hbx h4;go_wp2_with fail
     go_meet
     case rel =>
      obtain rfl:=HBX.out;exact⟨ao,co,rfl,HO,HX,HBW⟩
 case rest =>
 obtain⟨ao,co,rfl,HO,HX,HBW⟩:=hcut;have hfr:=HF.out ao co wc HBW.out (Row.of_owns HO.out);have hfl:decide ((0:Int)<(B.length:Int))=!B.isEmpty:=by cases B<;>simp<;>omega
 have HFL:=Hh hfl;have HFR:=Hh hfr;clear hfr hfl;go_wp2_with fail
 refine HFR.out.mono ?_;rintro e w3 ⟨vr,va,rfl,hia3,hb3⟩;have HB3:=Hh (HBW.out.trans (hb3.mono HBW.out.size));have HXE:=Hh (aB HX.out hb3 (aA HX.out));have hlw:=aA HX.out;have HI3:=Hh hia3;obtain⟨⟨ki,ra,⟨im,ia⟩,ial⟩,hit⟩:∃ x,bX B=x:=⟨_,rfl⟩;rw[hit] at HI3 ⊢;obtain⟨ar,cr,rfl⟩:=aI HI3.out.raw;obtain⟨aa,ca,rfl⟩:=aI HI3.out.args.own;obtain⟨⟨p0,p1,p2,p3,p4⟩,q0,q1,q2,q3,q4⟩:=bJ HXE.out;have hl0:=aA HXE.out;have HLW:=Hh hlw;have HIT:=Hh hit;clear hb3 hia3 hit hlw;dsimp only[itV] at HI3 ⊢;go_wp2_with fail
 generalize hF:World.setCell (World.setCell (World.setCell (World.setCell (World.setCell w3 _ _) _ _) _ _) _ _) _ _=F;have hk:Kb w w3 F:=by rw[←hF];exact cN _ _ _ _ _ _
 have hfx:F.heap[w.heap.size]? = some (.cells #[ki,.slice ar ra.length cr,im,.slice aa ia.length ca,.bool ial] 55 (0,0)):=by rw[←hF];exact aG (aG (aG (aG (aG HXE.out))))
 have hbf:=bS HB3.out HB3.out.size hk lr;have hia:ItAt w ⟨ki,ra,(im,ia),ial⟩ (.slice ar ra.length cr) (.slice aa ia.length ca) F:=⟨bR (Kb.owns HI3.out.raw hk (fun e=>by have:=(HI3.out.raw.lt _ e).1;have:=HLW.out;omega)) (Xr HLW.out),(dV HI3.out.args hk HLW.out).mono (Xr HLW.out),fun _=>.inr trivial⟩
 clear hF hk;obtain⟨⟨r0,r1,r2,r3,r4⟩,_⟩:=bJ hfx;have hlf:=aA hfx;exact bodyPost_ret (v:=.tuple #[.agg #[ki,.slice ar ra.length cr,im,.slice aa ia.length ca,.bool ial],.bool (decide ((0:Int)<(B.length:Int)))]) (by simp[results,results37,go_sem,r0,r1,r2,r3,r4]) rfl ⟨.slice ar ra.length cr,.slice aa ia.length ca,by rw[HFL.out,HIT.out];rfl,by rw[HIT.out];exact hia,hbf⟩
end
end Go.Proofs.YtoigglljnklhlaaGreatDoor
