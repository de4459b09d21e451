/- Joined. -/
import Derived.Test.YtoigglljnklhlaaGreatDoorD23
import Derived.Test.YtoigglljnklhlaaGreatDoorD29
import Derived.Test.YtoigglljnklhlaaGreatDoorDY3
set_option maxHeartbeats 8000000
set_option maxRecDepth 100000
namespace Go.Proofs.YtoigglljnklhlaaGreatDoor
open Go.RowKit Go.Sort
open Go.Proofs.Tryz
theorem aPb {l:List UInt8} {u:Value} (h:u∈aT l):u.oneCell'=true:=Ad l u h
theorem Ae {w:World} {g o:Nat} {b:List UInt8} {n:Nat} (h:∀ (j:Nat) (x:UInt8),b[j]? = some x→w.cell? ⟨g,o+j,none⟩=some (.int .u8 x.toNat)):∀ j u,(aT (b.take n))[j]? = some u→w.cell? ((⟨g,o,none⟩:Addr).add j)=some u:=fun j u hu=>by
 rw[bD];have hj:=(Qd.1 hu).1;rw[fS] at hj;have hb:(b.take n)[j]? = some (b.take n)[j]:=Qb hj;have h1:=oS hb;rw[hu] at h1;injection h1 with h1
 rw[h1];refine h j _ ?_
 have:=hb
 rw[Qt] at hj;rw[Yt om] at this;exact this
theorem Cq (K:Nat) (b:List UInt8) (v:Value) (n:Nat) (k m:Int) (hk:k=K) (hm:m=n) (w:World) (hv:Row w v b.length (aT b)) (hn0:0<n) (hn:n≤b.length) (hl:b.length≤100000) :
 Calls prog 52 #[k,v,m] w fun e w'=>∃ vr,e=.returned (itV ⟨K,b.take n,([],[]),false⟩ vr (.slice none 0 0))∧w'.ownsRow w 5 1 vr n (aT (b.take n))∧Below w w w':=by
 subst hk hm;obtain⟨i0,hi,hz0,hz1,hz2⟩:=info_parts Tryz.infoByte;obtain⟨a,c,rfl,hcap,h⟩:=hv.byt;obtain⟨g,o,rfl,hg,hc⟩:=h (by intro e;rw[e] at hn;simp at hn;omega);have hk1:(n:Int)≤(b.length:Int):=om
 have hk2:(0:Int)≤(n:Int):=om
 have hk3:(n:Int)≤(c:Int):=om
 have htl:(aT (b.take n)).length=n*1:=by rw[fS,Qt];omega
 have HC:=Hh hc;clear hc h hv;go_enter func52,ntmps52
 have hb0:Below w w ((w.alloc (.cells #[(0:Int),zz,(),zz,.bool false] 55)).alloc (.cells #[] 5)):=bl;have hsrc:eR ((w.alloc (.cells #[(0:Int),zz,(),zz,.bool false] 55)).alloc (.cells #[] 5)) (.slice (some ⟨g,o,none⟩) n c) n (aT (b.take n)):=.inr ⟨⟨g,o,none⟩,c,rfl,Ae (fun j x hx=>(hb0.cell (p:=⟨g,o+j,none⟩) hg).trans (HC.out j x hx))⟩;have HSRC:=Hh hsrc;clear hsrc;have hown0:=iI (w.alloc (.cells #[(0:Int),zz,(),zz,.bool false] 55)) (w.heap.size+1) 5 1 sm;rw[Qa] at hown0;have HO:=Hh hown0;clear hown0;go_wp2_with (at_builtin;refine fK rfl _ _ 33 rfl (w.heap.size+1) 5 i0 (.int .u8 0) 1 1 underlying33 hi hz0 hz1 hz2 rfl dc _ 0 [] rfl HO.out _ n (aT (b.take n)) rfl HSRC.out htl (fun u hu=>aPb hu) (by unfold maxLen;omega) om sm ?_)
 intro v' w1 hown hgrow _;have hb:=hb0.grown hgrow (by simp;omega) (by intro q hq;cases hq;exact Xn _);have hbx:w1.heap[w.heap.size]? = some (.cells #[(0:Int),zz,(),zz,.bool false] 55 (0,0)):=by
  refine (hgrow.block _ (by simp;omega) (fun e=>by have h1:=Xi e;change w.heap.size=w.heap.size+1 at h1;omega)).trans (aE (aF _ _))
 have hown:w1.ownsRow (w.heap.size+1) 5 1 v' n (aT (b.take n)):=by simpa using hown
 obtain⟨a1,c1,rfl⟩:=aI hown;obtain⟨⟨q0,q1,q2,q3,q4⟩,f0,f1,f2,f3,f4⟩:=bJ hbx;have hlx:=aA hbx;have HOWN:=Hh hown;have HB:=Hh hb;have HBX:=Hh hbx;clear hb hgrow hb0 hown hbx;go_wp2_with fail
 generalize hF:World.setCell (World.setCell (World.setCell (World.setCell (World.setCell w1 _ _) _ _) _ _) _ _) _ _=F;have hkf:Kb w w1 F:=by rw[←hF];exact cN _ _ _ _ _ _
 have hfx:F.heap[w.heap.size]? = some (.cells #[K,.slice a1 n c1,(),zz,.bool false] 55 (0,0)):=by rw[←hF];exact aG (aG (aG (aG (aG HBX.out))))
 clear hF;obtain⟨⟨r0,r1,r2,r3,r4⟩,_⟩:=bJ hfx;have hlf:=aA hfx;refine bodyPost_ret (v:=itV ⟨K,b.take n,([],[]),false⟩ (.slice a1 n c1) (.slice none 0 0)) (by simp[results,results52,go_sem,itV,r0,r1,r2,r3,r4]) rfl ⟨_,rfl,?_,bS HB.out HB.out.size hkf lr⟩;exact bR (Kb.owns HOWN.out hkf (fun e=>by have:=(HOWN.out.lt _ e).1;omega)) (Xn _)
theorem Bs (b:List UInt8) (v:Value) (w:World) (hv:Row w v b.length (aT b)) (hb:b≠[]):Calls prog 51 #[v] w fun e w'=>e=.returned (.tuple #[.int .i64 (dE b).1,.int .i64 (dE b).2])∧w=w':=by
 obtain⟨x,t,rfl⟩:=List.exists_cons_of_ne_nil hb;have hne:∀ d:UInt8,x≠d→((x.toNat:Int) == (d.toNat:Int))=false:=fun d h=>by
  simp only[Xd,ne_eq];intro e;exact h (Yv.1 om)
 obtain⟨a,c,rfl,hcap,h⟩:=hv.byt;obtain⟨g,o,rfl,hg,hc⟩:=h sm;have c0:=hc 0 x rfl;rw[Xu] at c0;have hlen:(x::t).length=t.length+1:=rfl;rw[hlen] at hcap ⊢;have hi1:(0:Int)<(t.length:Int)+1:=om
 have HC:=Hh hc;clear hc h hb hv hlen;by_cases h1:x=203
 · subst h1;rw[show ((UInt8.toNat 203:Nat):Int)=203 from rfl] at c0
   clear hne;go_enter func51,ntmps51
   go_wp2_with fail
   go_ret2;exact⟨rfl,rfl⟩
 by_cases h2:x=237
 · subst h2;rw[show ((UInt8.toNat 237:Nat):Int)=237 from rfl] at c0
   clear hne;go_enter func51,ntmps51
   go_wp2_with fail
   go_ret2;exact⟨rfl,rfl⟩
 by_cases h3:x=221∨x=253
 · rcases t with _|⟨y,t⟩
   · rcases h3 with rfl|rfl
     · rw[show ((UInt8.toNat 221:Nat):Int)=221 from rfl] at c0
       clear hne;go_enter func51,ntmps51
       go_wp2_with fail
       go_ret2;exact⟨rfl,rfl⟩
     · rw[show ((UInt8.toNat 253:Nat):Int)=253 from rfl] at c0
       clear hne;go_enter func51,ntmps51
       go_wp2_with fail
       go_ret2;exact⟨rfl,rfl⟩
   · have c1:=HC.out 1 y rfl;have hn1:(1:Int)<(t.length:Int)+1+1:=om
     by_cases hy:y=203
     · subst hy;rw[show ((UInt8.toNat 203:Nat):Int)=203 from rfl] at c1
       rcases h3 with rfl|rfl
       · rw[show ((UInt8.toNat 221:Nat):Int)=221 from rfl] at c0
         clear hne;go_enter func51,ntmps51
         go_wp2_with fail
         go_ret2;exact⟨by simp[dE],rfl⟩
       · rw[show ((UInt8.toNat 253:Nat):Int)=253 from rfl] at c0
         clear hne;go_enter func51,ntmps51
         go_wp2_with fail
         go_ret2;exact⟨by simp[dE],rfl⟩
     · have hy1:((y.toNat:Int) == 203)=false:=by
        simp only[Xd,ne_eq];intro e;exact hy (Yv.1 (by rw[show (203:UInt8).toNat=203 from rfl];omega))
       have HY:=Hh hy;clear hy;rcases h3 with rfl|rfl
       · rw[show ((UInt8.toNat 221:Nat):Int)=221 from rfl] at c0
         clear hne;go_enter func51,ntmps51
         go_wp2_with fail
         go_ret2;exact⟨by simp[dE,HY.out],rfl⟩
       · rw[show ((UInt8.toNat 253:Nat):Int)=253 from rfl] at c0
         clear hne;go_enter func51,ntmps51
         go_wp2_with fail
         go_ret2;exact⟨by simp[dE,HY.out],rfl⟩
 · have e1:((x.toNat:Int) == 203)=false:=hne 203 h1;have e2:((x.toNat:Int) == 237)=false:=hne 237 h2;have e3:((x.toNat:Int) == 221)=false:=hne 221 (fun e=>h3 (.inl e));have e4:((x.toNat:Int) == 253)=false:=hne 253 (fun e=>h3 (.inr e));have HP:=Hh (show dE (x::t)=(0,0) by simp[dE,h1,h2];intro h;exact absurd h h3)
   clear hne h1 h2 h3;go_enter func51,ntmps51
   go_wp2_with fail
   go_ret2;exact⟨by rw[HP.out];rfl,rfl⟩
theorem uI (x:UInt8) (w:World):Calls prog 55 #[.int .u8 x.toNat] w fun e w'=>e=.returned (.int .i64 (sgn x))∧w=w':=by
 have hx:=x.toNat_lt;have hr:sgn x=if x.toNat≥128 then (x.toNat:Int) - 256 else x.toNat:=rfl
 obtain⟨y,hy⟩:∃ y,sgn x=y:=⟨_,rfl⟩;rw[hy] at hr ⊢;have HR:=Hh hr;clear hr hy;obtain⟨z,hz⟩:∃ z,x.toNat=z:=⟨_,rfl⟩;rw[hz] at hx HR ⊢;by_cases h:128≤z
 · have h1:(128:Int)≤(z:Int):=om
   go_enter func55,ntmps55
   go_wp2_with fail
   go_ret;exact⟨by rw[HR.out,if_pos h];rfl,rfl⟩
 · have h1:¬ (128:Int)≤(z:Int):=om
   go_enter func55,ntmps55
   go_wp2_with fail
   go_ret;exact⟨by rw[HR.out,if_neg h];rfl,rfl⟩
theorem Da {o:Option aY} {w w':World} {x:Ending} (h:oW o w x w'):∃ a c b,x=.returned (.tuple #[.agg #[.string ⟨(bI o).1.toArray⟩,.slice a (bI o).2.length c],.bool b])∧ORow w' w (.slice a (bI o).2.length c) (bI o).2.length (opc (bI o).2)∧Below w w w':=by
 obtain⟨v,rfl,h1,h2⟩:=h;rcases o with _|i
 · exact⟨none,0,false,rfl,ORow.nil _ _,h2⟩
 · have h3:=h1 i rfl;obtain⟨a,c,rfl⟩:=h3.slice;exact⟨a,c,true,rfl,h3,h2⟩
def aAG (p:Nat) (o:Option Ent):Bool :=
 match o with
 | none=>true
 | some e=>decide (e.page=p) && decide (e.args.length≤3) && decide (e.extra.length≤3) && e.extra.all fun c=>decide (c=100∨c=101∨c=110∨c=119)
theorem aPZ:∀ p:Fin 7,∀ op:Fin 256,aAG p.val (atP p.val op.val).1=true:=by decide +kernel
theorem aAF {p:Nat} (op:UInt8) (hp:p<7) {e:Ent} (he:(atR p op.toNat).1.getD ent0=e):e.page<7∧e.args.length≤3∧e.extra.length≤3∧(∀ c∈e.extra,c=100∨c=101∨c=110∨c=119)∧(e.extra≠[]→e.page=p):=by
 have h:=aPZ ⟨p,hp⟩ ⟨op.toNat,op.toNat_lt⟩;rw[rE op hp] at he;dsimp only at h;cases h1:(atP p op.toNat).1 with
 | none=>rw[h1] at he;subst he;simp[ent0]
 | some e' =>
   rw[h1] at he h;obtain rfl:e'=e:=he;simp only[aAG,Qe,Qf,Xk] at h;exact⟨om,h.1.1.2,h.1.2,h.2,fun _=>h.1.1.1⟩
theorem Rx (b:List UInt8):(dE b).1<7∧(dE b).2≤3∧(if 5≤(dE b).1 then 2 else (dE b).2+1)≤fA (dE b).1+1∧((dE b).1=2→(dE b).2=1):=by
 unfold dE;dsimp only
 repeat' split
 all_goals (first|decide|(simp[fA];done)|(simp_all;done))
theorem aAB:∀ p:Fin 7,∀ op:Fin 256,(atP p.val op.val).2=3→p.val=2:=by decide +kernel
def aPs (it:It) (w:World) (x:Ending) (w':World):Prop :=
 ∃ vr va,x=.returned (itV it vr va)∧ItAt w.heap.size it vr va w'∧Below w.heap.size w w'
theorem rD {w W F:World} {K n:Nat} {raw:List UInt8} {a1:Option Addr} {c1:Nat} (hb:Below w w W) (hx:W.heap[w.heap.size]? = some (.cells #[(0:Int),zz,(),zz,.bool false] 55 (0,0)))
 (ho:W.ownsRow (w.heap.size+1) 5 1 (.slice a1 n c1) n (aT raw)) (hn:n=raw.length)
 (hF:((((((W.setCell w K).setCell ⟨w,1,none⟩ (.slice a1 n c1)).setCell ⟨w,2,none⟩ ()).setCell ⟨w,3,none⟩ zz).setCell ⟨w,4,none⟩ (.bool false))=F)) :
 F.heap[w.heap.size]? = some (.cells #[K,.slice a1 n c1,(),zz,.bool false] 55 (0,0))∧ItAt w ⟨K,raw,([],[]),false⟩ (.slice a1 n c1) (.slice none 0 0) F∧Below w w F:=by
 subst hn;have hkf:Kb w W F:=by rw[←hF];exact cN _ _ _ _ _ _
 refine⟨by rw[←hF];exact aG (aG (aG (aG (aG hx)))),⟨?_,ORow.nil _ _,fun _=>.inr trivial⟩,bS hb hb.size hkf lr⟩
 exact bR (Kb.owns ho hkf (fun e=>by have:=(ho.lt _ e).1;omega)) (Xn _)
theorem aMv {tm:Array Value} {it:It} {vr va:Value} {w F:World} (hr:∃ a n c,vr=.slice a n c) (hva:∃ a n c,va=.slice a n c) (ha:tm[2]?.getD undef=.pointer w) (hfx:F.heap[w.heap.size]? = some (.cells #[it.kind,vr,it.ins.1,va,.bool it.alias] 55 (0,0))) (hit:ItAt w it vr va F) (hbf:Below w w F) :
 bodyPost prog Tryz.f28 (aPs it w) Exit.ret ⟨tm,[]⟩ F:=by
 obtain⟨a1,n1,c1,rfl⟩:=hr;obtain⟨a2,n2,c2,rfl⟩:=hva;obtain⟨⟨r0,r1,r2,r3,r4⟩,_⟩:=bJ hfx;have hlf:=aA hfx;exact bodyPost_ret (v:=itV it (.slice a1 n1 c1) (.slice a2 n2 c2)) (by simp[results,results28,go_sem,itV,ha,r0,r1,r2,r3,r4]) rfl (show aPs it w _ F by unfold aPs;exact⟨_,_,rfl,hit,hbf⟩)
theorem Cy (hAt:∀ (page:Nat) (op:UInt8) (W:World),page<7→Calls prog 53 #[page,.int .u8 op.toNat] W (pY (atR page op.toNat) W))
 (b:List UInt8) (v:Value) (w:World) (hv:Row w v b.length (aT b)) (hb:b≠[]) (hl:b.length≤100000):Calls prog 28 #[v] w (aPs (wV b) w):=by
 have hpos:=Yu.2 hb;have HPG:=Hh (fun W (h:Below w w W)=>Bs b v W (hv.below h) hb);have HIT:=Hh (fun K n (k m:Int) hk hm W (h:Below w w W) h0 h1=>Cq K b v n k m hk hm W (hv.below h) h0 h1 hl);obtain⟨hp7,hat3,hnx,hp2⟩:=Rx b;rw[lS];obtain⟨⟨p,at'⟩,hpg⟩:∃ x,dE b=x:=⟨_,rfl⟩;rw[hpg] at HPG hp7 hat3 hnx hp2 ⊢;dsimp only at HPG hp7 hat3 hnx hp2 ⊢;clear hpg;have HV:=Hh hv.byt;obtain⟨a,c,rfl,_,_⟩:=hv;obtain⟨R,hR⟩:∃ R,rN b p at'=R:=⟨_,rfl⟩;rw[hR];unfold rN at hR;have hlen0:(0:Int)<(b.length:Int):=om
 go_enter func28,ntmps28
 go_wp2_with fail
 have hal:Below w w (w.alloc (.cells #[(0:Int),zz,(),zz,.bool false] 55)):=br.alloc lr _;refine (HPG.out _ hal).mono ?_;rintro e w1 ⟨rfl,rfl⟩;have HBX0:=Hh (aF w (.cells #[(0:Int),zz,(),zz,.bool false] 55));have HBW:=Hh hal;clear hal;by_cases hge:b.length≤at'
 · rw[if_pos hge] at hR;subst hR;have HI:=Hh (fun W h=>HIT.out 4 b.length 4 b.length rfl rfl W h hpos lr);have h1:(b.length:Int)≤(at':Int):=om
   clear hge HIT;go_wp2_with fail
   refine (HI.out _ HBW.out).mono ?_;rintro e w4 ⟨vr,rfl,ho,hb4⟩;obtain⟨a1,c1,rfl⟩:=aI ho;have hbx4:=aB HBX0.out hb4 (aA HBX0.out);have HB2:=Hh (HBW.out.trans (hb4.mono HBW.out.size));have HO:=Hh (bR ho (show w.heap.size+1≤_ from aA HBX0.out));have HBX:=Hh hbx4;obtain⟨⟨q0,q1,q2,q3,q4⟩,f0,f1,f2,f3,f4⟩:=bJ hbx4;have hlx:=aA hbx4;clear ho hb4 hbx4;simp only[itV,Qy] at HO ⊢;go_wp2_with fail
   generalize hF:World.setCell (World.setCell (World.setCell (World.setCell (World.setCell w4 _ _) _ _) _ _) _ _) _ _=F;obtain⟨hfx,hit,hbf⟩:=rD HB2.out HBX.out HO.out sm hF;exact aMv ⟨_,_,_,rfl⟩ ⟨_,_,_,rfl⟩ rfl hfx hit hbf
 rw[if_neg hge] at hR;obtain⟨x,hx⟩:∃ x,b[at']? = some x:=⟨_,Qb om⟩;have hgd:b.getD at' 0=x:=by rw[Xh,hx];rfl
 rw[hgd] at hR;have hent:=fun e he=>aAF (e:=e) x hp7 he;have HA:=Hh (fun W=>hAt p x W hp7);unfold pY at HA;obtain⟨⟨oe,kd⟩,hoe⟩:∃ y,atR p x.toNat=y:=⟨_,rfl⟩;have hk3:kd=3→2≤b.length:=fun e=>by
  have h1:=aAB ⟨p,hp7⟩ ⟨x.toNat,x.toNat_lt⟩;dsimp only at h1;rw[←rE x hp7,hoe] at h1
  have:=hp2 (h1 e)
  omega
 rw[hoe] at hent HA hR;dsimp only at hent HA hR;obtain⟨E,hE⟩:∃ E,oe.getD ent0=E:=⟨_,rfl⟩;have hE':oe.getD ⟨0,0,[],[],[],false⟩=E:=hE;rw[hE] at HA;rw[hE'] at hR;obtain⟨he1,he2,he3,he4,he5⟩:=hent E hE;clear hE hE' hoe hent hgd;have h1:¬ (b.length:Int)≤(at':Int):=om
 have h2:(at':Int)<(b.length:Int):=om
 have h3:(0:Int)≤(at':Int):=om
 obtain⟨_,_,hv0,hcap,hcs⟩:=HV.out;cases hv0
 obtain⟨g,o,rfl,hg,hcs⟩:=hcs hb;have cx:=hcs at' x hx;have HCS:=Hh hcs;have HE4:=Hh he4;have HE5:=Hh he5;have HR:=Hh hR;clear hcs hcap hge hx he4 he5 hR;obtain⟨page,op,mn,args,ex,al⟩:=E;dsimp only at he1 he2 he3 HE4 HE5 HA HR;go_wp2_with fail
 refine (HA.out _).mono ?_;rintro e w2 ⟨ve,rfl,hoe,hb2⟩;have hoe':=hoe;obtain⟨ae,ce,rfl,_⟩:=hoe';have hbx:=aB HBX0.out hb2 (aA HBX0.out);have hb2w:=HBW.out.trans (hb2.mono HBW.out.size);clear HBX0 HBW hb2;go_upto_region 5 with fail
 generalize hW3:World.alloc w2 _=W3;have hb23:Below w2 w2 W3:=by rw[←hW3];exact br.alloc lr _
 have hen3:W3.heap[w2.heap.size]? = some (.cells #[page,.int .u8 op,mn,.slice ae args.length ce,ex,.bool al] 107 (0,0)):=by rw[←hW3];exact aF _ _
 have HBX3:=Hh (aB hbx hb23 (aA hbx));have HBW3:=Hh (hb2w.trans (hb23.mono hb2w.size));have HEN3:=Hh hen3;have HOE3:=Hh (hoe.below hb23);have HSZ:=Hh (show w.heap.size<w2.heap.size from aA hbx);clear hW3 hb23 hbx hb2w hen3 hoe;by_cases hk0:kd=0
 · subst hk0;have hR:=HR.out;rw[if_pos rfl] at hR;subst hR;have HI:=Hh (fun W h=>HIT.out 2 1 2 1 rfl rfl W h om hpos);clear HIT hk3 hnx hp2 he1 he2 he3;go_wp2_with fail
   refine (HI.out _ HBW3.out).mono ?_;rintro e w4 ⟨vr,rfl,ho,hb4⟩;obtain⟨a1,c1,rfl⟩:=aI ho;have hbx4:=aB HBX3.out hb4 (aA HBX3.out);have HB2:=Hh (HBW3.out.trans (hb4.mono HBW3.out.size));have HO:=Hh (bR ho (show w.heap.size+1≤_ from aA HBX3.out));have HBX:=Hh hbx4;obtain⟨⟨q0,q1,q2,q3,q4⟩,f0,f1,f2,f3,f4⟩:=bJ hbx4;have hlx:=aA hbx4;clear ho hb4 hbx4;simp only[itV];go_wp2_with fail
   generalize hF:World.setCell (World.setCell (World.setCell (World.setCell (World.setCell w4 _ _) _ _) _ _) _ _) _ _=F;obtain⟨hfx,hit,hbf⟩:=rD HB2.out HBX.out HO.out (by rw[Qt];omega) hF;exact aMv ⟨_,_,_,rfl⟩ ⟨_,_,_,rfl⟩ rfl hfx hit hbf
 have HR:=Hh ((if_neg hk0).symm.trans HR.out);have e0:((kd:Int) == 0)=false:=by simp;omega
 by_cases hk1:kd=3
 · have hb2:=hk3 hk1;subst hk1;have hR:=HR.out;rw[if_pos rfl] at hR;subst hR;have HI:=Hh (fun W h=>HIT.out 3 2 3 2 rfl rfl W h om hb2);have HB22:=Hh hb2;clear HIT hk3 hnx hp2 he1 he2 he3 hk0 hb2;go_wp2_with fail
   refine (HI.out _ HBW3.out).mono ?_;rintro e w4 ⟨vr,rfl,ho,hb4⟩;obtain⟨a1,c1,rfl⟩:=aI ho;have hbx4:=aB HBX3.out hb4 (aA HBX3.out);have HB2:=Hh (HBW3.out.trans (hb4.mono HBW3.out.size));have HO:=Hh (bR ho (show w.heap.size+1≤_ from aA HBX3.out));have HBX:=Hh hbx4;obtain⟨⟨q0,q1,q2,q3,q4⟩,f0,f1,f2,f3,f4⟩:=bJ hbx4;have hlx:=aA hbx4;clear ho hb4 hbx4;simp only[itV];go_wp2_with fail
   generalize hF:World.setCell (World.setCell (World.setCell (World.setCell (World.setCell w4 _ _) _ _) _ _) _ _) _ _=F;obtain⟨hfx,hit,hbf⟩:=rD HB2.out HBX.out HO.out (by rw[Qt];have:=HB22.out;omega) hF;exact aMv ⟨_,_,_,rfl⟩ ⟨_,_,_,rfl⟩ rfl hfx hit hbf
 have HR:=Hh ((if_neg hk1).symm.trans HR.out);have e3:((kd:Int) == 3)=false:=by simp;omega
 have HS9:=Hh (fun a' n' c' W=>Fx ⟨page,op,mn,args,ex,al⟩ a' n' c' W he1 (by dsimp only;omega));unfold nG at HR;obtain⟨sz,hsz⟩:∃ sz,kW ⟨page,op,mn,args,ex,al⟩=sz:=⟨_,rfl⟩;rw[hsz] at HS9 HR;dsimp only at HS9 HR;clear hk0 hk1 hk3 hp2;obtain⟨⟨x0,x1,x2,x3,x4,x5⟩,_⟩:=aN HEN3.out;have hlen3:=aA HEN3.out;go_wp2_with fail
 refine (HS9.out _ _ _ _).mono ?_;rintro e W5 ⟨rfl,hb3⟩;have HBX5:=Hh (aB HBX3.out hb3 (aA HBX3.out));have HBW5:=Hh (HBW3.out.trans (hb3.mono HBW3.out.size));have HEN5:=Hh (aB HEN3.out hb3 hlen3);have HOE5:=Hh (HOE3.out.below hb3);clear x0 x1 x2 x3 x4 x5 hlen3 hb3 HBX3 HBW3 HEN3 HOE3;go_upto_region 11 with fail
 by_cases hlt:b.length<sz
 · have hR:=HR.out;rw[if_pos hlt] at hR;subst hR;have HI:=Hh (fun W h=>HIT.out 4 b.length 4 b.length rfl rfl W h hpos lr);have e4:(b.length:Int)<(sz:Int):=om
   clear HIT hnx he1 he2 he3 hsz hlt;go_wp2_with fail
   refine (HI.out _ HBW5.out).mono ?_;rintro e w4 ⟨vr,rfl,ho,hb4⟩;obtain⟨a1,c1,rfl⟩:=aI ho;have hbx4:=aB HBX5.out hb4 (aA HBX5.out);have HB2:=Hh (HBW5.out.trans (hb4.mono HBW5.out.size));have HO:=Hh (bR ho (show w.heap.size+1≤_ from aA HBX5.out));have HBX:=Hh hbx4;obtain⟨⟨q0,q1,q2,q3,q4⟩,f0,f1,f2,f3,f4⟩:=bJ hbx4;have hlx:=aA hbx4;clear ho hb4 hbx4;simp only[itV,Qy] at HO ⊢;go_wp2_with fail
   generalize hF:World.setCell (World.setCell (World.setCell (World.setCell (World.setCell w4 _ _) _ _) _ _) _ _) _ _=F;obtain⟨hfx,hit,hbf⟩:=rD HB2.out HBX.out HO.out sm hF;exact aMv ⟨_,_,_,rfl⟩ ⟨_,_,_,rfl⟩ rfl hfx hit hbf
 have hR:=(if_neg hlt).symm.trans HR.out;obtain⟨NX,hNX⟩:∃ NX,(if 5≤p then 2 else at'+1)=NX:=⟨_,rfl⟩;rw[hNX] at hnx hR;have hsz1:0<sz:=by rw[←hsz];unfold kW;omega
 have hbd:ex≠[]→NX+ex.length+ex.count 119≤b.length:=fun h=>by
  have h1:=HE5.out h;rw[←hsz] at hlt;unfold kW at hlt;dsimp only at hlt h1;rw[h1] at hlt;omega
 obtain⟨X,hX⟩:∃ X,eL ex (b.drop NX) 0 0=X:=⟨_,rfl⟩;rw[hX] at hR;have HX:=Hh hX;have HBD:=Hh hbd;have hNX4:NX≤4:=by rw[←hNX];split<;>omega
 have HI:=Hh (fun W h=>HIT.out 1 sz 1 sz rfl rfl W h hsz1 om);have e4:¬ (b.length:Int)<(sz:Int):=om
 have e5:5≤p∧NX=2∨¬ 5≤p∧NX=at'+1:=by
  by_cases h5:5≤p
  · rw[if_pos h5] at hNX;exact .inl ⟨h5,hNX.symm⟩
  · rw[if_neg h5] at hNX;exact .inr ⟨h5,hNX.symm⟩
 have HFI:=Hh (fun v' d n W h=>Db ⟨page,op,mn,args,ex,al⟩ v' d n W h (by dsimp only;omega) (by dsimp only;omega));have HSL:=Hh (show sz≤b.length by omega);have HLN:=Hh (show decide (b.length<sz)=false from Qg hlt)
 have HEL:=Hh he3;have hexl:ex.length≤100:=om
 clear HIT hnx hX hbd he1 he2 he3 hsz1 hNX hsz hlt;have HR:=Hh hR;clear hR;rcases e5 with⟨h5,rfl⟩|⟨h5,rfl⟩;all_goals
  have h5i:decide (5≤(p:Int))=decide (5≤p):=by simp;omega
  first|rw[Qh h5] at h5i|rw[Qg h5] at h5i
  clear h5;obtain⟨⟨x0,x1,x2,x3,x4,x5⟩,_⟩:=aN HEN5.out;have hlen5:=aA HEN5.out;go_wp2_with fail
  try rw[HLN.out]
  go_loopw [8,9,10,11] (fun dv nv xv i wr=>∃ (j nx:Nat) (d' n':Int),j≤ex.length∧i=.int .i64 j∧xv=.int .i64 nx∧dv=.int .i64 d'∧nv=.int .i64 n'∧nx≤10+j∧Hid (eL (ex.drop j) (b.drop nx) d' n'=X)∧Hid (j<ex.length→nx+(ex.length - j)+(ex.drop j).count 119≤b.length)∧Hid (wr.heap[w.heap.size]? = some (.cells #[(0:Int),zz,(),zz,.bool false] 55 (0,0)))∧Hid (Below w w wr)∧Hid (wr.heap[w2.heap.size]? = some (.cells #[page,.int .u8 op,mn,.slice ae args.length ce,ex,.bool al] 107 (0,0)))∧Hid (Row wr (.slice ae args.length ce) args.length (opc args))) (fun _ _ _ i _=>ex.length - (intOf i).toNat)
  case atStart=>exact⟨0,_,0,0,Qi _,rfl,by first|rfl|(go_num;done)|(simp;done),rfl,rfl,om,HX,Hh (fun h=>by have:=HBD.out (by rintro rfl;exact absurd h (Qw _));rw[List.drop_zero];omega),HBX5,HBW5,HEN5,HOE5⟩
  case round =>
   obtain⟨j,nx,d',n',hj,rfl,rfl,rfl,rfl,hnx,HRX,HBD2,HBX5,HBW5,HEN5,HOE5⟩:=hrel;clear x0 x1 x2 x3 x4 x5 hlen5;obtain⟨⟨x0,x1,x2,x3,x4,x5⟩,_⟩:=aN HEN5.out;have hlen5:=aA HEN5.out;by_cases hlt:j<ex.length
   · obtain⟨x',hx'⟩:∃ x,ex[j]? = some x:=⟨_,Qb hlt⟩;have hsp:j<(⟨ex.toArray⟩:ByteArray).size:=by show j<ex.toArray.size;simpa using hlt
     have hix:=Ba ex j x' hx' hsp;have hdr:ex.drop j=x'::ex.drop (j+1):=by rw[Yj hlt,(Qd.1 hx').2]
     have hbd:=HBD2.out hlt;rw[hdr,List.count_cons] at hbd;have HDR:=Hh hdr;have hi3:(j:Int)<(ex.length:Int):=om
     have HBD3:=Hh hbd;have hcc:=HE4.out x' (Qu hx');clear hdr hx';obtain⟨y,hy⟩:∃ y,b[nx]? = some y:=⟨_,Qb om⟩;have cy:=(HBW5.out.cell (p:=⟨g,o+nx,none⟩) hg).trans (HCS.out nx y hy);have hi1:(nx:Int)<(b.length:Int):=om
     have hyl:=y.toNat_lt;have hr0:(b.drop nx).getD 0 0=y:=by rw[Xh,Yh,Xu,hy];rfl
     clear hbd;rcases hcc with rfl|rfl|rfl|rfl
     · have hbd2:=HBD3.out;simp at hbd2
       have hst:eL (ex.drop (j+1)) (b.drop (nx+1)) (sgn y) (n')=X:=by
        rw[←HRX.out,HDR.out,eL];simp only[hr0];simp
       have HST:=Hh hst;have HBD2:=Hh hbd2;clear hst hr0 hy hbd2;go_wp2_with fail
       refine (uI y _).mono ?_;rintro e w9 ⟨rfl,rfl⟩;go_wp2_with fail
       go_roundw
       case rel =>
        exact⟨j+1,nx+1,sgn y,n',om,by go_num,by go_num,rfl,rfl,om,HST,Hh (fun h=>by have:=HBD2.out;omega),HBX5,HBW5,HEN5,HOE5⟩
       case measure=>simp[intOf];omega
     · have hbd2:=HBD3.out;simp at hbd2
       have hst:eL (ex.drop (j+1)) (b.drop (nx+1)) (d') (sgn y)=X:=by
        rw[←HRX.out,HDR.out,eL];simp only[hr0];simp
       have HST:=Hh hst;have HBD2:=Hh hbd2;clear hst hr0 hy hbd2;go_wp2_with fail
       refine (uI y _).mono ?_;rintro e w9 ⟨rfl,rfl⟩;go_wp2_with fail
       go_roundw
       case rel =>
        exact⟨j+1,nx+1,d',sgn y,om,by go_num,by go_num,rfl,rfl,om,HST,Hh (fun h=>by have:=HBD2.out;omega),HBX5,HBW5,HEN5,HOE5⟩
       case measure=>simp[intOf];omega
     · have hbd2:=HBD3.out;simp at hbd2
       have hst:eL (ex.drop (j+1)) (b.drop (nx+1)) (d') ((y.toNat:Int))=X:=by
        rw[←HRX.out,HDR.out,eL];simp only[hr0];simp
       have HST:=Hh hst;have HBD2:=Hh hbd2;clear hst hr0 hy hbd2;go_wp2_with fail
       go_roundw
       case rel=>exact⟨j+1,nx+1,d',(y.toNat:Int),om,by go_num,by go_num,rfl,by first|rfl|(congr 1;omega),om,HST,Hh (fun h=>by have:=HBD2.out;omega),Hh HBX5.out,Hh ⟨HBW5.out.os,HBW5.out.tape,HBW5.out.output,HBW5.out.size,HBW5.out.block⟩,Hh HEN5.out,Hh HOE5.out⟩
       case measure=>simp[intOf];omega
     · have hbd2:=HBD3.out;simp at hbd2
       obtain⟨z,hz⟩:∃ z,b[nx+1]? = some z:=⟨_,Qb om⟩;have cz:=(HBW5.out.cell (p:=⟨g,o+(nx+1),none⟩) hg).trans (HCS.out (nx+1) z hz);have cz1:=cz;rw[←Yb] at cz;have hq4:((nx:Int)+1).toNat=nx+1:=om
       have hi2:(nx:Int)+1<(b.length:Int):=om
       have hr1:(b.drop nx).getD 1 0=z:=by rw[Xh,Yh,hz];rfl
       have hq1:(0:Int)≤(nx:Int)+1:=om
       have hq2:IntKind.i64.wrap ((nx:Int)+1)=(nx:Int)+1:=IntWalk.i64_in _ om;have hq3:(nx:Int)+1≤1000:=om
       have hq0:(0:Int)≤(nx:Int):=om
       have hzl:=z.toNat_lt;have hst:eL (ex.drop (j+1)) (b.drop (nx+1)) (d') (((y.toNat:Int)+256*(z.toNat:Int)))=X:=by
        rw[←HRX.out,HDR.out,eL];simp only[hr0,hr1];simp
       have HST:=Hh hst;have HBD2:=Hh hbd2;clear hst hr0 hy hbd2 hr1 hz;go_wp2_with fail
       go_quiet (fail)
       go_wp2_with fail
       go_roundw
       case rel=>exact⟨j+1,nx+1,d',((y.toNat:Int)+256*(z.toNat:Int)),om,by go_num,by go_num,rfl,by first|rfl|(congr 1;omega),om,HST,Hh (fun h=>by have:=HBD2.out;omega),Hh HBX5.out,Hh ⟨HBW5.out.os,HBW5.out.tape,HBW5.out.output,HBW5.out.size,HBW5.out.block⟩,Hh HEN5.out,Hh HOE5.out⟩
       case measure=>simp[intOf];omega
   · obtain rfl:j=ex.length:=om
     have hX:=HRX.out;rw[List.drop_length,eL] at hX;have HXE:=Hh hX;clear hX;go_wp2_with fail
     refine (HI.out _ HBW5.out).mono ?_;rintro e w6 ⟨vr,rfl,ho,hb6⟩;obtain⟨a1,c1,rfl⟩:=aI ho;have HBX6:=Hh (aB HBX5.out hb6 (aA HBX5.out));have HBW6:=Hh (HBW5.out.trans (hb6.mono HBW5.out.size));have HEN6:=Hh (aB HEN5.out hb6 hlen5);have HOE6:=Hh (HOE5.out.below hb6);have HO6:=Hh (bR ho (show w.heap.size+1≤_ from Qn HSZ.out (Xr hlen5)))
     have HOL:=Hh (fun q (hq:(Value.slice a1 sz c1).ownBlock=some q)=>(HO6.out.lt q hq).2);clear ho hb6 x0 x1 x2 x3 x4 x5;simp only[itV];obtain⟨⟨x0,x1,x2,x3,x4,x5⟩,_⟩:=aN HEN6.out;have hlen6:=aA HEN6.out;go_wp2_with fail
     generalize hW7:World.alloc w6 _=W7;have hb67:Below w6 w6 W7:=by rw[←hW7];exact br.alloc lr _
     have h7b:W7.heap[w6.heap.size]? = some (.cells #[(1:Int),.slice a1 sz c1,(),zz,.bool false] 55 (0,0)):=by rw[←hW7];exact aF _ _
     have HO7:=Hh (bK HO6.out hb67);have HOE7:=Hh (HOE6.out.below hb67);have HBX7:=Hh (aB HBX6.out hb67 (aA HBX6.out));have HEN7:=Hh (aB HEN6.out hb67 hlen6);have HBW7:=Hh (HBW6.out.trans (hb67.mono HBW6.out.size));have HH7:=Hh h7b;have hs67:w.heap.size<w6.heap.size:=aA HBX6.out;have hs6e:w2.heap.size<w6.heap.size:=hlen6;clear hW7 hb67 h7b x0 x1 x2 x3 x4 x5 hlen6;obtain⟨D,hD⟩:∃ D,lU ⟨page,op,mn,args,ex,al⟩ d' n'=D:=⟨_,rfl⟩;have hfi:=HFI.out (.slice ae args.length ce) d' n' W7 ⟨HOE7.out⟩;rw[hD] at hfi;have HD:=Hh hD;clear hD;refine hfi.mono ?_;rintro e w8 hfr;obtain⟨af,cf,bf,rfl,hof,hb8⟩:=Da hfr;clear hfi hfr;have HBX8:=Hh (aB HBX7.out hb8 (aA HBX7.out));have HEN8:=Hh (aB HEN7.out hb8 (aA HEN7.out));have HH8:=Hh (aB HH7.out hb8 (aA HH7.out));have HO8:=Hh (bK HO7.out hb8);have HBW8:=Hh (HBW7.out.trans (hb8.mono HBW7.out.size));have hs7:w6.heap.size<W7.heap.size:=aA HH7.out;have HOF:=Hh hof;clear hb8 hof HBX7 HEN7 HH7 HO7 HBW7 HOE7;obtain⟨⟨x0,x1,x2,x3,x4,x5⟩,_⟩:=aN HEN8.out;obtain⟨⟨q0,q1,q2,q3,q4⟩,f0,f1,f2,f3,f4⟩:=bJ HH8.out;have hl8:=aA HEN8.out;have hl8b:=aA HH8.out;have hl8x:=aA HBX8.out;obtain⟨⟨p0,p1,p2,p3,p4⟩,g0,g1,g2,g3,g4⟩:=bJ HBX8.out;have hne1:w2.heap.size≠w6.heap.size:=om
     have hne2:w.heap.size≠w6.heap.size:=om
     have hne3:w6.heap.size≠w.heap.size:=om
     obtain⟨MN,hMN⟩:∃ MN,(bI D).1=MN:=⟨_,rfl⟩;obtain⟨AR,hAR⟩:∃ AR,(bI D).2=AR:=⟨_,rfl⟩;rw[hMN,hAR];rw[hAR] at HOF;have HMN:=Hh hMN;have HAR:=Hh hAR;clear hMN hAR;go_wp2_with fail
     generalize hG:World.setCell (World.setCell (World.setCell w8 _ _) _ _) _ _=G;have hkg:Kb w6 w8 G:=by rw[←hG];exact Kb.setCell (Kb.setCell (Kb.setCell (Kb.refl _ _) _ _) _ _) _ _
     clear hG x0 x1 x2 x3 x4 x5 q0 q1 q2 q3 q4 f0 f1 f2 f3 f4 p0 p1 p2 p3 p4 g0 g1 g2 g3 g4;generalize hF:World.setCell (World.setCell (World.setCell (World.setCell (World.setCell G _ _) _ _) _ _) _ _) _ _=F;have hkf:Kb w G F:=by rw[←hF];exact cN _ _ _ _ _ _
     have hgx:=(hkg.block _ hl8x hne2).trans HBX8.out;have hfx:F.heap[w.heap.size]? = some (.cells #[(1:Int),.slice a1 sz c1,.string ⟨MN.toArray⟩,.slice af AR.length cf,.bool al] 55 (0,0)):=by rw[←hF];exact aG (aG (aG (aG (aG hgx))))
     have hbg:=bS HBW8.out HBW8.out.size hkg (Xr hs67);have hbf:=bS hbg hbg.size hkf lr;have hraw:F.ownsRow w 5 1 (.slice a1 sz c1) sz (aT (b.take sz)):=bR (Kb.owns (Kb.owns HO8.out hkg (fun e=>by have:=HOL.out _ e;omega)) hkf (fun e=>by have:=(HO8.out.lt _ e).1;omega)) (Xn _)
     have harg:ORow F w (.slice af AR.length cf) AR.length (opc AR):=(dV (dV HOF.out hkg hs7) hkf om).mono om;clear hF hkg hkf hgx hbg;have HSL2:=HSL.out;have hit:ItAt w ⟨1,b.take sz,(MN,AR),al⟩ (.slice a1 sz c1) (.slice af AR.length cf) F:=⟨by
      dsimp only;rw[Qt,Yz HSL2];exact hraw,harg,fun _=>.inr trivial⟩
     have hRR:(⟨1,b.take sz,(MN,AR),al⟩:It)=R:=by
      rw[←HR.out,←HXE.out];dsimp only;rw[HD.out,←HMN.out,←HAR.out]
     rw[←hRR];exact aMv ⟨_,_,_,rfl⟩ ⟨_,_,_,rfl⟩ rfl hfx hit hbf
theorem zN (b:List UInt8) (v:Value) (w:World) (hv:Row w v b.length (aT b)) (hb:b≠[]) (hl:b.length≤100000):Calls prog 28 #[v] w (aPs (bX b) w):=by
 rw[sV b hb];exact Cy (fun page op W hp=>Uk page op.toNat hp op.toNat_lt W) b v w hv hb hl
end Go.Proofs.YtoigglljnklhlaaGreatDoor
