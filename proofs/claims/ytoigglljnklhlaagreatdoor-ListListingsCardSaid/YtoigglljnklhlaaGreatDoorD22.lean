/- Joined. -/
import Derived.Test.YtoigglljnklhlaaGreatDoorD21
set_option maxHeartbeats 8000000
set_option maxRecDepth 100000
namespace Go.Proofs.YtoigglljnklhlaaGreatDoor
open Go.RowKit Go.Sort
open Go.Proofs.Tryz
def tU (l:List Nat):List Value:=l.map fun n:Nat=>Value.int .i64 (n:Int)
theorem Of (l m:List Nat):tU (l++m)=tU l++tU m:=by simp[tU]
theorem Tryz.infoInt:(prog.info? 3).map (fun i=>(i.zero,i.size,i.bytes))=some (some (.int .i64 0),1,8):=by kernel_rfl
theorem Mz (its:List ItX) (v:Value) (b:Nat) (w:World) (h:ItsAt w b v its) (hl:its.length≤100000) (hr:dJ (its.map Prod.fst)≤1000000) :
 Calls prog 58 #[v] w fun e w'=>∃ v',e=.returned v'∧w'.ownsRow w.heap.size 3 1 v' its.length (tU (nX 0 (its.map Prod.fst)))∧Below w.heap.size w w':=by
 obtain⟨i0,hi,hz0,hz1,hz2⟩:=info_parts Tryz.infoInt;have HI:=Hh h;obtain⟨a,c,rfl,hcap,_⟩:=h.get;clear h;go_enter func58,ntmps58
 go_wp2_with fail
 go_loopw [3,4,9] (fun o s i wr=>∃ (j:Nat),j≤its.length∧i=.int .i64 j∧s=.int .i64 (dJ ((its.map Prod.fst).take j):Nat)∧Hid (wr.ownsRow w.heap.size 3 1 o j (tU (nX 0 ((its.map Prod.fst).take j))))∧Hid (Below w.heap.size w wr)) (fun _ _ i _=>its.length - (intOf i).toNat)
 case atStart=>exact⟨0,Nat.zero_le _,rfl,rfl,Hh (World.ownsRow_nil _ _ _ _),Hh br⟩
 case round =>
  obtain⟨j,hj,rfl,rfl,HO,HB⟩:=hrel;by_cases hlt:j<its.length
  · obtain⟨x,hx⟩:∃ x,its[j]? = some x:=⟨_,List.getElem?_eq_getElem hlt⟩;have htk:(its.map Prod.fst).take (j+1)=(its.map Prod.fst).take j++[x.1]:=by rw[List.take_add_one,List.getElem?_map,hx];rfl
    have hle:=Ek (List.take_prefix (j+1) (its.map Prod.fst));have HIR:=Hh (HI.out.below HB.out);have hat:=HIR.out.has x (List.mem_of_getElem? hx);obtain⟨_,_,hv,_,hh⟩:=HIR.out.get;cases hv
    obtain⟨g,o,rfl,hgb,hg,hcs⟩:=hh (by rintro rfl;exact absurd hlt (Nat.not_lt_zero _))
    obtain⟨k0,k1,k2,k3,k4⟩:=hcs j x hx;obtain⟨⟨ki,ra,⟨im,ia⟩,ial⟩,vr,va⟩:=x;dsimp only at k0 k1 k2 k3 k4 hat htk;obtain⟨ar,cr,rfl⟩:=aI hat.raw;obtain⟨aa,ca,rfl⟩:=hat.args.slice;dsimp only at k1 k3;rw[htk,lC,jP] at hle;have hrn:dJ ([]:List It)=0:=rfl;rw[hrn] at hle;dsimp only at hle;have HTK:=Hh htk;generalize hN:dJ ((its.map Prod.fst).take j)=N at *;have HN:=Hh hN;have hi0:(0:Int)≤(j:Int):=om
    have hi1:(j:Int)<(its.length:Int):=om
    have hn0:(0:Int)≤(N:Int)+(ra.length:Int):=om
    have hn1:(N:Int)+(ra.length:Int)≤1000000:=om
    obtain⟨av,cv,rfl⟩:=aI HO.out;clear hh hcs hx hat htk hN hle hrn;go_wp2_with (at_builtin;refine wpList_append_own _ rfl _ _ 44 rfl w.heap.size 3 i0 (.int .i64 0) 1 8 underlying44 hi hz0 hz1 hz2 rfl dc _ _ _ rfl ((HO.out.alloc _).alloc _) ⟨wr.heap.size+1,0,none⟩ 1 1 [.int .i64 N] rfl rfl ?c1 ?c2 ?c3 ?c4 ?c5 ?_)
    case c1 =>
     intro q u hq;rw[bD];match q,hq with
     | 0,hq=>simp at hq;subst hq;simp[go_sem]
    case c2=>intro u hu;simp at hu;subst hu;rfl
    case c3=>unfold maxLen;omega
    case c4=>omega
    case c5=>have:=HB.out.size;simp[go_sem];omega
    intro v' w4 hown' hgrow _;obtain⟨g',cap',rfl⟩:=ownsRow_succ hown';have hsz:=HB.out.size;have hb4:Below w.heap.size w w4:=(HB.out.trans ((show Below wr.heap.size wr _ from bl).mono hsz)).grown hgrow (by simp[go_sem];omega) (fun q hq=>(HO.out.lt _ hq).1);have hbx:w4.heap[wr.heap.size]? = some (.cells #[.int .i64 ki,.slice ar ra.length cr,.string ⟨im.toArray⟩,.slice aa ia.length ca,.bool ial] 55 (0,0)):=(hgrow.block _ (by simp;omega) (fun e=>by have:=(HO.out.lt _ e.symm).2;omega)).trans (aE (aF _ _))
    have HO4:=Hh hown';have HB4:=Hh hb4;obtain⟨⟨q0,q1,q2,q3,q4⟩,_⟩:=bJ hbx;have hlx:=aA hbx;clear hown' hgrow hb4 hbx k0 k1 k2 k3 k4;go_wp2_with fail
    go_roundw
    case rel=>exact⟨j+1,om,by go_num,by rw[HTK.out,lC,HN.out,jP];simp[dJ],Hh (by rw[HTK.out,uR,Of,Nat.zero_add,HN.out];exact HO4.out),HB4⟩
    case measure=>simp[intOf];omega
  · obtain rfl:j=its.length:=om
    go_wp2_with fail
    go_ret;have ho:=HO.out;rw[List.take_of_length_le sm] at ho;exact⟨_,rfl,ho,HB.out⟩
end Go.Proofs.YtoigglljnklhlaaGreatDoor
namespace Go.Proofs.YtoigglljnklhlaaGreatDoor
open Go.RowKit Go.Sort Go.Shelf
open Go.Proofs.Tryz
attribute [local go_sem] Oper.semAt_some
def iT:Nat→List It→List (Nat × It)
 | _,[]=>[]
 | a,x::l=>(a,x)::iT (a+x.raw.length) l
theorem aDM:∀ (a:Nat) (l:List It) (i:Nat) (x:It),l[i]? = some x→(iT a l)[i]? = some (a+dJ (l.take i),x)
 | a,[],i,x,h=>by simp at h
 | a,y::l,0,x,h=>by simp at h;subst h;simp[iT,dJ]
 | a,y::l,i+1,x,h=>by
   have:=aDM (a+y.raw.length) l i x (by simpa using h)
   simp[iT,this,dJ,Nat.add_assoc]
theorem vR:∀ (a:Nat) (l:List It),(iT a l).length=l.length
 | _,[]=>rfl
 | a,x::l=>by simp[iT,vR (a+x.raw.length) l]
theorem pX:∀ (a:Nat) (l:List It),(iT a l).map Prod.snd=l
 | _,[]=>rfl
 | a,x::l=>by simp[iT,pX (a+x.raw.length) l]
def adX:Nat→List ItX→List (Nat × ItX)
 | _,[]=>[]
 | a,x::l=>(a,x)::adX (a+x.1.raw.length) l
theorem Fk:∀ (a:Nat) (l:List ItX) (i:Nat) (x:ItX),l[i]? = some x→(adX a l)[i]? = some (a+dJ ((l.map Prod.fst).take i),x)
 | a,[],i,x,h=>by simp at h
 | a,y::l,0,x,h=>by simp at h;subst h;simp[adX,dJ]
 | a,y::l,i+1,x,h=>by
   have:=Fk (a+y.1.raw.length) l i x (by simpa using h)
   simp[adX,this,dJ,Nat.add_assoc]
theorem xF:∀ (a:Nat) (l:List ItX),(adX a l).length=l.length
 | _,[]=>rfl
 | a,x::l=>by simp[adX,xF (a+x.1.raw.length) l]
theorem Fj:∀ (a:Nat) (l:List ItX),(adX a l).map (fun x=>(x.1,x.2.1))=iT a (l.map Prod.fst)
 | _,[]=>rfl
 | a,x::l=>by simp[adX,iT,Fj (a+x.1.raw.length) l]
def KpS (S:World→Nat→Prop) (A B:World):Prop:=A.heap.size≤B.heap.size∧(∀ (k:Nat) (o:Obj),A.heap[k]? = some o→o.isCells=true→¬ S A k→B.heap[k]? = some o)∧∀ k,S B k→S A k∨A.heap.size≤k
theorem Vr {S:World→Nat→Prop} {A B C:World} (h:KpS S A B) (k:KpS S B C):KpS S A C :=
 ⟨Nat.le_trans h.1 k.1,fun q o ho hc hs=>k.2.1 q o (h.2.1 q o ho hc hs) hc (fun hb=>by
  rcases h.2.2 q hb with h1|h1
  · exact hs h1
  · have:=aA ho;omega),fun q hq=>by
  rcases k.2.2 q hq with h1|h1
  · exact h.2.2 q h1
  · exact .inr (Nat.le_trans h.1 h1)⟩
def SOk (S:World→Nat→Prop) (m:Nat):Prop:=∀ A B,m≤A.heap.size→Below A.heap.size A B→∀ k,S B k→S A k
structure aBG (S:World→Nat→Prop) (m rb addr:Nat) (b:List UInt8) (v:Value) (W:World):Prop where
 cell:W.heap[rb]? = some (.cells #[.int .i64 addr,v] 61 (0,0))
 out:¬ S W rb
 row:Row W v b.length (aT b)
 tab:∀ W',Below W.heap.size W W'→TabsA W'
 lt:∀ k,S W k→k<W.heap.size
 m:m≤W.heap.size
abbrev AdX:=Nat × ItX
theorem Fi (n rb m addr:Nat) (hn:1≤n) (S:World→Nat→Prop) (hS:SOk S m) (b:List UInt8) (v:Value) (hl:b.length≤100000) (ha:addr≤100000) :
 vS Fence.wide n prog 57 #[.pointer (some ⟨rb,0,none⟩)] (fun x:AdX=>#[.int .i64 x.1,itV x.2.1 x.2.2.1 x.2.2.2]) (KpS S) (fun A B=>Below A.heap.size A B)
  (aBG S m rb addr b v) (fun x W=>ItAt 0 x.2.1 x.2.2.1 x.2.2.2 W∧x.2.1∈dI b∧x.1≤200000) (fun xs=>xs.map (fun x=>(x.1,x.2.1))=iT addr (dI b)) (fun _=>True) (dI b).length:=by
 intro lp J Jx W hR hJ hJx hY h0;have hbl:=aA hR.cell;have HDEC:=Hh (fun X (hb:Below W.heap.size W X)=>Dg b v X (hR.row.below hb) hl (fun W' h=>hR.tab W' (hb.trans (h.mono hb.size))));have hdl:(dI b).length≤100000:=Nat.le_trans (kK b) hl;have hrn:dJ (dI b)≤100000:=by rw[jO];exact hl
 have HR:=Hh hR;have HJ:=Hh hJ;have HY:=Hh hY;have H0:=Hh h0;obtain⟨a,c,rfl,_,_⟩:=hR.row;obtain⟨c0,c1,_,_⟩:=aL hR.cell;generalize dI b=L at *;clear hR hJ hJx hY h0;refine callsIn_of_wp func57 rfl trivial ?_ rfl;simp only[ntmps57,List.size_toArray,List.length_cons,List.length_nil,Nat.reduceAdd,Nat.reduceSub,Array.replicate_succ,Array.replicate_zero,List.push_toArray,List.append_toArray,List.nil_append,List.cons_append];gi_wp2_with fail
 refine⟨trivial,?_⟩;refine (callsIn_wide.2 (HDEC.out _ br)).mono ?_;rintro e w1 ⟨vi,its,rfl,hit,hits,hb1⟩;have hil:its.length=L.length:=by rw[←hit,List.length_map]
 have HOF:=Hh (fun X (hb:Below w1.heap.size w1 X)=>Mz its vi W.heap.size X (hits.below hb) om (by rw[hit];omega));have HIT:=Hh hit;have HITS:=Hh hits;have HB1:=Hh hb1;obtain⟨ai,ci,rfl⟩:=aI hits.own;have HIL:=Hh hil;have HRN:=Hh hrn;have HDL:=Hh hdl;clear hit hits hb1 hil hrn hdl;gi_wp2_with fail
 refine⟨trivial,?_⟩;refine (callsIn_wide.2 (HOF.out _ br)).mono ?_;rintro e w2 ⟨vo,rfl,hof,hb2⟩;obtain⟨ao,co,rfl⟩:=aI hof;rw[HIT.out] at hof;have HITS2:=Hh (HITS.out.below hb2);have HOFF:=Hh (aP hof HB1.out.size);have HB2:=Hh (HB1.out.trans (hb2.mono HB1.out.size));have HJ2:=Hh (HJ.out _ _ _ H0.out HB2.out);have HS2:=Hh (fun k (hk:S w2 k)=>HR.out.lt k (hS _ _ HR.out.m HB2.out k hk));have HRC:=Hh (aB HR.out.cell HB2.out hbl);have HRO:=Hh (fun (hk:S w2 rb)=>HR.out.out (hS _ _ HR.out.m HB2.out rb hk));clear hof hb2 HDEC HOF c0 c1;gi_wp2_with fail
 gi_loopg [12] (its.length+1) (fun k i wr=>∃ (j:Nat),j≤its.length∧i=.int .i64 j∧Hid (J ((adX addr its).take j) wr)∧Hid (lZ W.heap.size w2 wr)∧Hid (∀ k,S wr k→k<W.heap.size∨w2.heap.size≤k)∧Hid (wr.heap[rb]? = some (.cells #[.int .i64 addr,.slice a b.length c] 61 (0,0)))∧Hid (¬ S wr rb)∧Hid (w2.heap.size≤wr.heap.size)∧its.length - j<k)
 case atStart=>exact⟨0,Nat.zero_le _,rfl,HJ2,Hh (fun k o _ h _=>h),Hh (fun k hk=>.inl (HS2.out k hk)),HRC,HRO,Hh lr,om⟩
 case round =>
  obtain⟨j,hj,rfl,HJR,HKO,HSR,HRC2,HRO2,HSZ,hk⟩:=hrel;by_cases hlt:j<its.length
  · obtain⟨x,hx⟩:∃ x,its[j]? = some x:=⟨_,List.getElem?_eq_getElem hlt⟩;have hits:=HITS2.out.on HKO.out lr;have hat:=hits.has x (List.mem_of_getElem? hx);obtain⟨_,_,hv,hci,hh⟩:=hits.get;cases hv
    obtain⟨g,o,rfl,_,hg,hcs⟩:=hh (by rintro rfl;exact absurd hlt (Nat.not_lt_zero _))
    obtain⟨k0,k1,k2,k3,k4⟩:=hcs j x hx;obtain⟨_,_,hv,hco,hh2⟩:=Row.of_owns (lD HOFF.out HKO.out lr);cases hv
    have hol:(tU (nX 0 L)).length=its.length:=by rw[tU,List.length_map,yN,HIL.out]
    obtain⟨go,oo,rfl,hgo,hocs⟩:=hh2 (by intro e;rw[e] at hol;simp at hol;omega);have ho:=hocs j om;have hoe:(tU (nX 0 L))[j]? = some (.int .i64 (dJ (L.take j):Nat)):=by
     rw[tU,List.getElem?_map,yO 0 L j (by have:=HIL.out;omega),Nat.zero_add];rfl
    rw[hoe] at ho;have hag:=Fk addr its j x hx;rw[HIT.out] at hag;have htk:(adX addr its).take (j+1)=(adX addr its).take j++[(addr+dJ (L.take j),x)]:=by rw[List.take_add_one,hag];rfl
    have hrl:=Ek (List.take_prefix j L);have hrn2:=HRN.out;generalize hR0:dJ (L.take j)=R at *;obtain⟨⟨ki,ra,⟨im,ia⟩,ial⟩,vr,va⟩:=x;dsimp only at k0 k1 k2 k3 k4 hat;obtain⟨ar,cr,rfl⟩:=aI hat.raw;obtain⟨aa,ca,rfl⟩:=hat.args.slice;have hmem:(⟨ki,ra,(im,ia),ial⟩:It)∈L:=by rw[←HIT.out];exact List.mem_map_of_mem (List.mem_of_getElem? hx)
    have hN:((adX addr its).take j).length<L.length:=by rw[List.length_take,xF];have:=HIL.out;omega
    have HYX:=Hh (fun X (hX:Below wr.heap.size wr X)=>HY.out ((adX addr its).take j) (addr+R,(⟨ki,ra,(im,ia),ial⟩,.slice ar ra.length cr,.slice aa ia.length ca)) X (HJ.out _ _ _ HJR.out hX) ⟨(hat.below hX).mono (Nat.zero_le _),hmem,by show addr+R≤200000;omega⟩ hN)
    obtain⟨z0,z1,_,_⟩:=aL HRC2.out;have hlrb:=aA HRC2.out;have HTK:=Hh htk;have hi0:(0:Int)≤(j:Int):=om
    have hi1:(j:Int)<(its.length:Int):=om
    have hr1:(0:Int)≤(addr:Int)+(R:Int):=om
    have hr2:(addr:Int)+(R:Int)≤1000000:=om
    have hwr:IntKind.i64.wrap ((addr:Int)+(R:Int))=(addr:Int)+(R:Int):=IntWalk.i64_in _ om;have hlen9:its.length≤100000:=by have h1:=HIL.out;have h2:=HDL.out;omega
    have hci1:(its.length:Int)≤(ci:Int):=om
    have hco1:(its.length:Int)≤(co:Int):=om
    clear hits hat hh hh2 hcs hocs hol hoe hag htk hrl hrn2 hR0 hN hx hmem;obtain⟨fn,tmps,assign,body,hy,hRY⟩:=HYX.out wr.drew (Below.drew br);have hiv:itV ⟨ki,ra,(im,ia),ial⟩ (.slice ar ra.length cr) (.slice aa ia.length ca)=.agg #[.int .i64 ki,.slice ar ra.length cr,.string ⟨im.toArray⟩,.slice aa ia.length ca,.bool ial]:=rfl;dsimp only at hy;rw[hiv,Int.natCast_add] at hy;clear hiv;have hRY2:=hRY.mono (R':=fun e B=>∃ r:Bool,e=.returned (.bool r)∧(r=true→J ((adX addr its).take (j+1)) B∧KpS S wr.drew B)∧(r=false→Jx ((adX addr its).take (j+1)) B)) (fun e B h=>by
     rw[HTK.out];rcases h with⟨rfl,h1,h2⟩|⟨rfl,h1⟩
     · exact⟨true,rfl,fun _=>⟨h1,h2⟩,fun h=>by cases h⟩
     · exact⟨false,rfl,(fun h=>by cases h),fun _=>h1⟩)
    have HRY:=Hh hRY2;clear hRY hRY2;gi_wp2_with fail
    gi_region_with (first|(refine⟨by simp,?_⟩;refine HRY.out.mono ?_;rintro e w7 ⟨r7,rfl,ht,hf⟩)|(refine HRY.out.mono ?_;rintro e w7 ⟨r7,rfl,ht,hf⟩))
    all_goals
     cases r7
     · have hx7:=hf rfl;clear ht hf;gi_wp2_with fail
       refine bodyPost_ret (results_none rfl _ _ _) rfl ?_;exact⟨⟨_,rfl⟩,.inr ⟨_,trivial,hx7⟩⟩
     · obtain⟨hj7,hk7⟩:=ht rfl;clear ht hf;have hmw:m≤wr.heap.size:=Nat.le_trans HR.out.m (Nat.le_trans HB2.out.size HSZ.out);have hSd:∀ k,S wr.drew k→S wr k:=hS wr wr.drew hmw (Below.drew br);have hko:lZ W.heap.size w2 w7:=fun k o hk ho hc=>hk7.2.1 k o (HKO.out k o hk ho hc) hc (fun hs=>by
        have h2:=aA ho;rcases HSR.out k (hSd k hs) with h|h<;>omega)
       have hsr:∀ k,S w7 k→k<W.heap.size∨w2.heap.size≤k:=fun k hs=>by
        rcases hk7.2.2 k hs with h|h
        · exact HSR.out k (hSd k h)
        · exact .inr (Nat.le_trans HSZ.out h)
       have hrc7:=hk7.2.1 rb _ HRC2.out rfl (fun hs=>HRO2.out (hSd _ hs));have hro7:¬ S w7 rb:=fun h=>by
        rcases hk7.2.2 rb h with h1|h1
        · exact HRO2.out (hSd rb h1)
        · change wr.heap.size≤rb at h1;omega
       have hsz7:w2.heap.size≤w7.heap.size:=Nat.le_trans HSZ.out hk7.1;have HJ7:=Hh hj7;have HK7:=Hh hko;have HS7:=Hh hsr;have HC7:=Hh hrc7;have HO7:=Hh hro7;have HZ7:=Hh hsz7;clear hj7 hk7 hko hsr hrc7 hro7 hsz7 hSd hmw hy HRY z0 z1 k0 k1 k2 k3 k4 ho;gi_wp2_with fail
       gi_roundg (its.length - j)
       case measure=>exact hk
       case rel=>exact⟨j+1,om,by go_num,HJ7,HK7,HS7,HC7,HO7,HZ7,om⟩
  · obtain rfl:j=its.length:=om
    have hjr:=HJR.out;rw[List.take_of_length_le (by rw[xF];exact Nat.le_refl _)] at hjr;have HJE:=Hh hjr;clear hjr;gi_wp2_with fail
    go_end0
    exact⟨⟨_,rfl⟩,.inl ⟨adX addr its,by rw[Fj,HIT.out],HJE.out⟩⟩
end Go.Proofs.YtoigglljnklhlaaGreatDoor
namespace Go.Proofs.YtoigglljnklhlaaGreatDoor
open Go.RowKit Go.Sort
open Go.Proofs.Tryz
section
variable {P:Program} (w:World)
theorem aCb (base:Nat) (t u ty e:TypeId) (i:TypeInfo) (ht:P.underlying t=some (.slice e)) (hu:P.underlying u=some .string) (hi:P.info? e=some i) (hz:i.zero=some (.int .u8 0)) (hsize:i.size=1) (hby:i.bytes=1)
 (v:Value) (n:Nat) (xs:List Value) (hown:w.ownsRow base e 1 v n xs) (s:ByteArray) (h63:n+s.size≤maxLen) (hbytes:n+s.size≤140737488355328) (v':Value) (w':World)
 (hr:(Builtin.append_ #[t,u] ty #[v,.string s]).run P w=.ok v' w') (h4:v'=.slice none 0 0↔v=.slice none 0 0∧s.size=0):v'.ownBlock=v.ownBlock∨v'.ownBlock=some w.heap.size:=by
 have hsmall:n+s.size≤9223372036854775807:=by simp only[maxLen] at h63;omega
 have hxl:xs.length=n:=by simpa using hown.1
 rcases hown.2 with⟨rfl,rfl⟩|⟨g,cap,cur,rfl,hbg,hg,hnc,hcm,hcs,htake⟩
 · by_cases hm:s.size=0
   · rw[h4.2 ⟨rfl,hm⟩];exact .inl rfl
   · have hr2:=run_append_nil_string (P:=P) w t u ty e i (.int .u8 0) ht hu hi hz s om om (by rw[hby];omega);rw[hr2] at hr;injection hr with h1 h2
     subst h1;exact .inr rfl
 · by_cases hroom:n+s.size≤cap
   · have hcs':cur.size=cap:=by simpa using hcs
     have hr2:=Lib.run_append_room_string (P:=P) w t u ty e i ht hu hi hsize g n cap cur hg s hroom om;rw[hr2] at hr;injection hr with h1 h2
     subst h1;exact .inl rfl
   · have holds:∀ j u,xs[j]? = some u→w.cell? ((⟨g,0,none⟩:Addr).add j)=some u:=hown.cells (g:=g) rfl;have hr2:=Lib.run_append_grow_string (P:=P) w t u ty e i (.int .u8 0) ht hu hi hz ⟨g,0,none⟩ n cap xs (by rw[hsize];simpa using hxl) holds s om om (by rw[hby];exact growslice_fits om om)
     rw[hr2] at hr;injection hr with h1 h2
     subst h1;exact .inr rfl
theorem oY {ops:Array Oper} {rest:List Oper} {o:Oper} {a:Act} {Q:Exit→Act→World→Prop} (hgd:o.guard=none) (sl x:Operand) (t u:TypeId)
 (ho:o.op=.call { callee:=.builtin .append,args:=#[sl,x],argTypes:=#[t,u] })
 (base:Nat) (e:TypeId) (i:TypeInfo) (ht:P.underlying t=some (.slice e)) (hu:P.underlying u=some .string) (hi:P.info? e=some i) (hz:i.zero=some (.int .u8 0))
 (hsize:i.size=1) (hby:i.bytes=1)
 (v:Value) (n:Nat) (xs:List Value) (hs:a.eval sl=v) (hown:w.ownsRow base e 1 v n xs) (s:ByteArray) (hx:a.eval x=.string s)
 (h63:n+s.size≤maxLen) (hbytes:n+s.size≤140737488355328) (hbase:base≤w.heap.size)
 (h:∀ v' w',w'.ownsRow base e 1 v' (n+s.size) (xs++Lib.strCells s)→w.grownBy w' v.ownBlock→(v'.ownBlock=v.ownBlock∨v'.ownBlock=some w.heap.size)→wpList P ops Q rest (a.put o.dst v') w'):wpList P ops Q (o::rest) a w:=by
 refine wpList_plain hgd fun K hK=>?_;obtain⟨v',w',hr,h2,h3,h4⟩:=Lib.run_append_own_string (P:=P) w base t u o.type e i ht hu hi hz hsize hby v n xs hown s h63 hbytes hbase;have h5:=aCb w base t u o.type e i ht hu hi hz hsize hby v n xs hown s h63 hbytes v' w' hr h4;unfold Oper.wp execOp;simp only[ho,resolve,invoke,builtin,Sem.run_bind,Sem.run_pure,Result.andThen_ok,List.map_toArray,List.map_cons,List.map_nil,hs,hx,hr];exact hK _ _ (h v' w' h2 h3 h5)
end
def SB (b:Nat) (W:World) (k:Nat):Prop:=∃ p v,W.heap[b]? = some (.cells #[p,v] 77 (0,0))∧(k=b∨v.ownBlock=some k)
theorem fY {b:Nat} {W:World} {p v:Value} (h:W.heap[b]? = some (.cells #[p,v] 77 (0,0))) (k:Nat):SB b W k↔k=b∨v.ownBlock=some k:=by
 constructor
 · rintro⟨p',v',hb,hk⟩;rw[h] at hb;cases hb
   exact hk
 · exact fun hk=>⟨p,v,h,hk⟩
theorem Lv {b:Nat} {W W':World} (h:∀ o,W'.heap[b]? = some o→W.heap[b]? = some o∨∃ c T fz,o=.cells c T fz∧T≠77) (k:Nat) (hs:SB b W' k):SB b W k:=by
 obtain⟨p,v,hb,hk⟩:=hs;rcases h _ hb with h1|⟨c,T,fz,h1,h2⟩
 · exact⟨p,v,h1,hk⟩
 · cases h1;exact absurd rfl h2
theorem Xb {b l:Nat} {W:World} (o':Obj) (h:b≠l) (k:Nat) (hs:SB b (W.putObj l o') k):SB b W k:=Lv (fun o ho=>.inl (by rw[←ho];exact (World.putObj_heap_other om).symm)) k hs
theorem Ly {b:Nat} {W:World} {c:Array Value} {T:TypeId} {fz:Nat × Nat} (hT:T≠77) (k:Nat) (hs:SB b (W.alloc (.cells c T fz)) k):SB b W k:=Lv (fun o ho=>by
 by_cases hb:b<W.heap.size
 · left
   rw[←ho];exact (Below.heap_alloc _ _ _ hb).symm
 · have hl:=aA ho;rw[World.size_alloc] at hl;obtain rfl:b=W.heap.size:=om
   rw[aF] at ho;exact .inr ⟨c,T,fz,(Option.some.inj ho).symm,hT⟩) k hs
def KpA (S:World→Nat→Prop) (A B:World):Prop:=A.heap.size≤B.heap.size∧(∀ (k:Nat) (o:Obj),A.heap[k]? = some o→¬ S A k→B.heap[k]? = some o)∧∀ k,S B k→S A k∨A.heap.size≤k
theorem Vs {S:World→Nat→Prop} {A B C:World} (h:KpA S A B) (k:KpA S B C):KpA S A C :=
 ⟨Nat.le_trans h.1 k.1,fun q o ho hs=>k.2.1 q o (h.2.1 q o ho hs) (fun hb=>by
  rcases h.2.2 q hb with h1|h1
  · exact hs h1
  · have:=aA ho;omega),fun q hq=>by
  rcases k.2.2 q hq with h1|h1
  · exact h.2.2 q h1
  · exact .inr (Nat.le_trans h.1 h1)⟩
theorem Vt {S:World→Nat→Prop} {A B:World} (h:KpA S A B):KpS S A B:=⟨h.1,fun k o ho _ hs=>h.2.1 k o ho hs,h.2.2⟩
theorem He {S:World→Nat→Prop} {m:Nat} {A B:World} (hS:SOk S m) (hm:m≤A.heap.size) (h:Below A.heap.size A B):KpA S A B :=
 ⟨h.size,fun _ _ ho _=>aB ho h (aA ho),fun k hk=>.inl (hS A B hm h k hk)⟩
theorem mM:(prog.info? 77).map (·.size)=some 2:=by kernel_rfl
theorem tT:liesAt prog prog.depth 77 (2/prog.cellsOf 77) 0 77 1=true:=by kernel_rfl
theorem nJ (b:Nat) (w:World) (h0:w.cell? ⟨b,0,none⟩=some (.pointer (some ⟨b,0,none⟩))) :
 Calls prog 69 #[.pointer (some ⟨b,0,none⟩)] w fun e w'=>e=.returned (.tuple #[])∧w'=w:=by
 obtain⟨j,hj,_⟩:=Option.map_eq_some_iff.1 mM;go_enter func69,ntmps69
 go_wp2
 rw[Lib.run_neq_ptr_same w _ underlying75 hj];go_wp2
 go_end0
 exact⟨rfl,rfl⟩
theorem mK (b:Nat) (w:World) (h0:w.cell? ⟨b,0,none⟩=some (.pointer none)) (hsh:w.shape? b=some (77,2)) (hfz:w.frozen? ⟨b,0,none⟩=false) :
 Calls prog 69 #[.pointer (some ⟨b,0,none⟩)] w fun e w'=>e=.returned (.tuple #[])∧w'=w.setCell ⟨b,0,none⟩ (.pointer (some ⟨b,0,none⟩)):=by
 obtain⟨j,hj,hjs⟩:=Option.map_eq_some_iff.1 mM;go_enter func69,ntmps69
 go_wp2
 rw[Lib.run_to_unsafe w ⟨b,0,none⟩ underlying75 underlying175 hj (by rw[hjs];decide) hsh (Nat.zero_lt_succ 1)];simp only[Result.andThen];rw[Oper.upon_value];go_wp2
 rw[run_callFunc_extern func108 kr kr kr (e:=Extern.AbiNoEscape.same) kr];rw[Lib.run_noEscape];simp only[Result.andThen];rw[Oper.upon_value];go_wp2
 rw[Lib.run_from_unsafe w ⟨b,0,none⟩ underlying175 underlying75 hj hsh tT];simp only[Result.andThen];rw[Oper.upon_value];go_wp2
 go_end0
 exact⟨rfl,rfl⟩
abbrev IsB (B b:Nat) (bs:List Value) (w:World):Prop:=Lib.IsBuilder 77 5 B b bs w
abbrev BAt (B b:Nat) (p:Value) (bs:List Value) (w:World):Prop:=Lib.BuilderAt 77 5 B b p bs w
theorem Pz (B b:Nat) (bs:List Value) (w:World) (h:IsB B b bs w) :
 Calls prog 69 #[.pointer (some ⟨b,0,none⟩)] w fun e w'=>e=.returned (.tuple #[])∧(BAt B b (.pointer (some ⟨b,0,none⟩)) bs w'∧Below B w w'∧KpA (SB b) w w'):=by
 rcases h with h|h
 · refine (mK b w h.cell0 h.shape h.frozen0).mono ?_;rintro e w' ⟨rfl,rfl⟩;refine⟨rfl,h.used _,(Below.refl B w).setCell (p:=⟨b,0,none⟩) h.1 _,by rw[setCell_size];exact Nat.le_refl _,fun k o ho hs=>aD ho (fun e=>hs (by obtain⟨_,v,hb,_⟩:=h;exact (fY hb k).2 (.inl e))),fun k hk=>.inl ?_⟩
   obtain⟨_,v,hb,_⟩:=h;have h2:=aG (i:=0) (v:=.pointer (some ⟨b,0,none⟩)) hb;exact (fY hb k).2 ((fY h2 k).1 hk)
 · refine (nJ b w h.cell0).mono ?_;rintro e w' ⟨rfl,rfl⟩;exact⟨rfl,h,Below.refl B _,Nat.le_refl _,fun _ _ ho _=>ho,fun k hk=>.inl hk⟩
theorem Qf (B b:Nat) (bs:List Value) (s:ByteArray) (w:World) (h:IsB B b bs w) (hlen:bs.length+s.size≤140737488355328) (hBw:B≤w.heap.size) :
 Calls prog 38 #[.pointer (some ⟨b,0,none⟩),.string s] w fun e w'=>e=.returned (.tuple #[.int .i64 s.size,.nilIface])∧(BAt B b (.pointer (some ⟨b,0,none⟩)) (bs++Lib.strCells s) w'∧Below B w w'∧KpA (SB b) w w'):=by
 obtain⟨i0,hi,hz0,hz1,hz2⟩:=info_parts Tryz.infoByte;go_enter func38,ntmps38
 go_wp2_with (refine (Pz B b bs _ h).mono ?_)
 rintro e w1 ⟨rfl,h1,hb1,hkp1⟩;obtain⟨hB,v,hbk,hown,hne⟩:=h1;have c0:w1.cell? ⟨b,0,none⟩=some (.pointer (some ⟨b,0,none⟩)):=by rw[Lib.cell_of_heap hbk];rfl
 have c1:w1.cell? ⟨b,1,none⟩=some v:=by rw[Lib.cell_of_heap hbk];rfl
 go_wp2_with (at_builtin;refine oY _ rfl _ _ 33 9 rfl B 5 i0 underlying33 underlying9 hi hz0 hz1 hz2 _ _ _ rfl hown s rfl ?c3 ?c4 ?c5 ?_)
 case c3=>unfold maxLen;omega
 case c4=>omega
 case c5=>have:=hb1.size;omega
 intro v' w2 hown' hgrow hat;have hlt:b<w1.heap.size:=by
  rcases Nat.lt_or_ge b w1.heap.size with h' | h'
  · exact h'
  · simp[Array.getElem?_eq_none h'] at hbk
 have hb2:w2.heap[b]? = some (.cells #[.pointer (some ⟨b,0,none⟩),v] 77 (0,0)):=by
  rw[hgrow.block b hlt (fun e=>hne e.symm)];exact hbk
 have d0:w2.cell? ⟨b,0,none⟩=some (.pointer (some ⟨b,0,none⟩)):=by rw[Lib.cell_of_heap hb2];rfl
 have d1:w2.cell? ⟨b,1,none⟩=some v:=by rw[Lib.cell_of_heap hb2];rfl
 have f1:w2.frozen? ⟨b,1,none⟩=false:=Lib.frozen_of_heap hb2 1;obtain⟨ao,n',cap,rfl⟩:∃ ao n' cap,v'=.slice ao n' cap:=by
  rcases hown'.2 with⟨hv,_⟩|⟨g,cap,cur,hv,_⟩
  · exact⟨_,_,_,hv⟩
  · exact⟨_,_,_,hv⟩
 have HAT:=Hh hat;have HKP:=Hh hkp1;clear hat hkp1;go_wp2
 go_ret2;refine⟨rfl,?_,?_,Vs HKP.out ⟨by rw[setCell_size];exact hgrow.size,fun k o ho hs=>?_,fun k hk=>?_⟩⟩
 · exact Lib.BuilderAt.put (T:=77) (e:=5) hB hb2 (bs':=bs++Lib.strCells s) (by simpa[Lib.strCells_length] using hown') dc
 · exact (hb1.grown hgrow (by have:=hb1.size;omega) (fun k hk=>(hown.lt k hk).1)).setCell (p:=⟨b,1,none⟩) hB _
 · have hkb:k≠b:=fun e=>hs ((fY hbk k).2 (.inl e));exact aD ((hgrow.block k (aA ho) (fun e=>hs ((fY hbk k).2 (.inr e.symm)))).trans ho) hkb
 · have h2:=aG (i:=1) (v:=.slice ao n' cap) hb2;rcases (fY h2 k).1 hk with h3|h3
   · exact .inl ((fY hbk k).2 (.inl h3))
   · rcases HAT.out with h4|h4
     · rw[h4] at h3;exact .inl ((fY hbk k).2 (.inr h3))
     · rw[h4] at h3;exact .inr (Nat.le_of_eq (Option.some.inj h3))
end Go.Proofs.YtoigglljnklhlaaGreatDoor
