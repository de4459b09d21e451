/- Joined. -/
import Derived.Test.YtoigglljnklhlaaGreatDoorD36
import Derived.Test.YtoigglljnklhlaaGreatDoorDY1
set_option maxHeartbeats 8000000
set_option maxRecDepth 100000
namespace Go.Proofs.YtoigglljnklhlaaGreatDoor
open Go.RowKit Go.Sort
open Go.Proofs.Tryz
theorem Bs (b:List UInt8) (v:Value) (w:World) (hv:Row w v b.length (aT b)) (hb:b≠[]):Calls prog 51 #[v] w fun e w'=>e=.returned (.tuple #[.int .i64 (dE b).1,.int .i64 (dE b).2])∧w=w':=by
 obtain⟨x,t,rfl⟩:=List.exists_cons_of_ne_nil hb;have hne:∀ d:UInt8,x≠d→((x.toNat:Int) == (d.toNat:Int))=false:=fun d h=>by
  simp only[beq_eq_false_iff_ne,ne_eq];intro e;exact h (UInt8.toNat_inj.1 om)
 obtain⟨a,c,rfl,hcap,h⟩:=hv.byt;obtain⟨g,o,rfl,hg,hc⟩:=h sm;have c0:=hc 0 x rfl;rw[Nat.add_zero] at c0;have hlen:(x::t).length=t.length+1:=rfl;rw[hlen] at hcap ⊢;have hi1:(0:Int)<(t.length:Int)+1:=om
 have HC:=Hh hc;clear hc h hb hv hlen;by_cases h1:x=203
 · subst h1;rw[show ((UInt8.toNat 203:Nat):Int)=203 from rfl] at c0
   clear hne;go_enter func51,ntmps51
   go_wp2_with fail
   go_ret2;exact⟨rfl,rfl⟩
 by_cases h2:x=237
 · subst h2;rw[show ((UInt8.toNat 237:Nat):Int)=237 from rfl] at c0
   clear hne;go_enter func51,ntmps51
   go_wp2_with fail
   go_ret2;exact⟨rfl,rfl⟩
 by_cases h3:x=221∨x=253
 · rcases t with _|⟨y,t⟩
   · rcases h3 with rfl|rfl
     · rw[show ((UInt8.toNat 221:Nat):Int)=221 from rfl] at c0
       clear hne;go_enter func51,ntmps51
       go_wp2_with fail
       go_ret2;exact⟨rfl,rfl⟩
     · rw[show ((UInt8.toNat 253:Nat):Int)=253 from rfl] at c0
       clear hne;go_enter func51,ntmps51
       go_wp2_with fail
       go_ret2;exact⟨rfl,rfl⟩
   · have c1:=HC.out 1 y rfl;have hn1:(1:Int)<(t.length:Int)+1+1:=om
     by_cases hy:y=203
     · subst hy;rw[show ((UInt8.toNat 203:Nat):Int)=203 from rfl] at c1
       rcases h3 with rfl|rfl
       · rw[show ((UInt8.toNat 221:Nat):Int)=221 from rfl] at c0
         clear hne;go_enter func51,ntmps51
         go_wp2_with fail
         go_ret2;exact⟨by simp[dE],rfl⟩
       · rw[show ((UInt8.toNat 253:Nat):Int)=253 from rfl] at c0
         clear hne;go_enter func51,ntmps51
         go_wp2_with fail
         go_ret2;exact⟨by simp[dE],rfl⟩
     · have hy1:((y.toNat:Int) == 203)=false:=by
        simp only[beq_eq_false_iff_ne,ne_eq];intro e;exact hy (UInt8.toNat_inj.1 (by rw[show (203:UInt8).toNat=203 from rfl];omega))
       have HY:=Hh hy;clear hy;rcases h3 with rfl|rfl
       · rw[show ((UInt8.toNat 221:Nat):Int)=221 from rfl] at c0
         clear hne;go_enter func51,ntmps51
         go_wp2_with fail
         go_ret2;exact⟨by simp[dE,HY.out],rfl⟩
       · rw[show ((UInt8.toNat 253:Nat):Int)=253 from rfl] at c0
         clear hne;go_enter func51,ntmps51
         go_wp2_with fail
         go_ret2;exact⟨by simp[dE,HY.out],rfl⟩
 · have e1:((x.toNat:Int) == 203)=false:=hne 203 h1;have e2:((x.toNat:Int) == 237)=false:=hne 237 h2;have e3:((x.toNat:Int) == 221)=false:=hne 221 (fun e=>h3 (.inl e));have e4:((x.toNat:Int) == 253)=false:=hne 253 (fun e=>h3 (.inr e));have HP:=Hh (show dE (x::t)=(0,0) by simp[dE,h1,h2];intro h;exact absurd h h3)
   clear hne h1 h2 h3;go_enter func51,ntmps51
   go_wp2_with fail
   go_ret2;exact⟨by rw[HP.out];rfl,rfl⟩
theorem uI (x:UInt8) (w:World):Calls prog 55 #[.int .u8 x.toNat] w fun e w'=>e=.returned (.int .i64 (sgn x))∧w=w':=by
 have hx:=x.toNat_lt;have hr:sgn x=if x.toNat≥128 then (x.toNat:Int) - 256 else x.toNat:=rfl
 obtain⟨y,hy⟩:∃ y,sgn x=y:=⟨_,rfl⟩;rw[hy] at hr ⊢;have HR:=Hh hr;clear hr hy;obtain⟨z,hz⟩:∃ z,x.toNat=z:=⟨_,rfl⟩;rw[hz] at hx HR ⊢;by_cases h:128≤z
 · have h1:(128:Int)≤(z:Int):=om
   go_enter func55,ntmps55
   go_wp2_with fail
   go_ret;exact⟨by rw[HR.out,if_pos h];rfl,rfl⟩
 · have h1:¬ (128:Int)≤(z:Int):=om
   go_enter func55,ntmps55
   go_wp2_with fail
   go_ret;exact⟨by rw[HR.out,if_neg h];rfl,rfl⟩
theorem Da {o:Option aY} {w w':World} {x:Ending} (h:oW o w x w'):∃ a c b,x=.returned (.tuple #[.agg #[.string ⟨(bI o).1.toArray⟩,.slice a (bI o).2.length c],.bool b])∧ORow w' w.heap.size (.slice a (bI o).2.length c) (bI o).2.length (opc (bI o).2)∧Below w.heap.size w w':=by
 obtain⟨v,rfl,h1,h2⟩:=h;rcases o with _|i
 · exact⟨none,0,false,rfl,ORow.nil _ _,h2⟩
 · have h3:=h1 i rfl;obtain⟨a,c,rfl⟩:=h3.slice;exact⟨a,c,true,rfl,h3,h2⟩
def aAG (p:Nat) (o:Option Ent):Bool :=
 match o with
 | none=>true
 | some e=>decide (e.page=p) && decide (e.args.length≤3) && decide (e.extra.length≤3) && e.extra.all fun c=>decide (c=100∨c=101∨c=110∨c=119)
theorem Yk:∀ p:Fin 7,∀ op:Fin 256,aAG p.val (atP p.val op.val).1=true:=by decide +kernel
theorem aAF {p:Nat} (op:UInt8) (hp:p<7) {e:Ent} (he:(atR p op.toNat).1.getD ent0=e):e.page<7∧e.args.length≤3∧e.extra.length≤3∧(∀ c∈e.extra,c=100∨c=101∨c=110∨c=119)∧(e.extra≠[]→e.page=p):=by
 have h:=Yk ⟨p,hp⟩ ⟨op.toNat,op.toNat_lt⟩;rw[rE op hp] at he;dsimp only at h;cases h1:(atP p op.toNat).1 with
 | none=>rw[h1] at he;subst he;simp[ent0]
 | some e' =>
   rw[h1] at he h;obtain rfl:e'=e:=he;simp only[aAG,Bool.and_eq_true,decide_eq_true_eq,List.all_eq_true] at h;exact⟨om,h.1.1.2,h.1.2,h.2,fun _=>h.1.1.1⟩
theorem Rx (b:List UInt8):(dE b).1<7∧(dE b).2≤3∧(if 5≤(dE b).1 then 2 else (dE b).2+1)≤fA (dE b).1+1∧((dE b).1=2→(dE b).2=1):=by
 unfold dE;dsimp only
 repeat' split
 all_goals (first|decide|(simp[fA];done)|(simp_all;done))
theorem aAB:∀ p:Fin 7,∀ op:Fin 256,(atP p.val op.val).2=3→p.val=2:=by decide +kernel
def Qy (it:It) (w:World) (x:Ending) (w':World):Prop :=
 ∃ vr va,x=.returned (itV it vr va)∧ItAt w.heap.size it vr va w'∧Below w.heap.size w w'
theorem rD {w W F:World} {K n:Nat} {raw:List UInt8} {a1:Option Addr} {c1:Nat} (hb:Below w.heap.size w W) (hx:W.heap[w.heap.size]? = some (.cells #[.int .i64 0,.slice none 0 0,.string ⟨#[]⟩,.slice none 0 0,.bool false] 55 (0,0)))
 (ho:W.ownsRow (w.heap.size+1) 5 1 (.slice a1 n c1) n (aT raw)) (hn:n=raw.length)
 (hF:((((((W.setCell ⟨w.heap.size,0,none⟩ (.int .i64 K)).setCell ⟨w.heap.size,1,none⟩ (.slice a1 n c1)).setCell ⟨w.heap.size,2,none⟩ (.string ⟨#[]⟩)).setCell ⟨w.heap.size,3,none⟩ (.slice none 0 0)).setCell ⟨w.heap.size,4,none⟩ (.bool false))=F)) :
 F.heap[w.heap.size]? = some (.cells #[.int .i64 K,.slice a1 n c1,.string ⟨#[]⟩,.slice none 0 0,.bool false] 55 (0,0))∧ItAt w.heap.size ⟨K,raw,([],[]),false⟩ (.slice a1 n c1) (.slice none 0 0) F∧Below w.heap.size w F:=by
 subst hn;have hkf:Kb w.heap.size W F:=by rw[←hF];exact cN _ _ _ _ _ _
 refine⟨by rw[←hF];exact aG (aG (aG (aG (aG hx)))),⟨?_,ORow.nil _ _,fun _=>.inr trivial⟩,bS hb hb.size hkf lr⟩
 exact bR (Kb.owns ho hkf (fun e=>by have:=(ho.lt _ e).1;omega)) (Nat.le_succ _)
theorem Cy (hAt:∀ (page:Nat) (op:UInt8) (W:World),page<7→Calls prog 53 #[.int .i64 page,.int .u8 op.toNat] W (pY (atR page op.toNat) W))
 (b:List UInt8) (v:Value) (w:World) (hv:Row w v b.length (aT b)) (hb:b≠[]) (hl:b.length≤100000):Calls prog 28 #[v] w (Qy (wV b) w):=by
 have hpos:=List.length_pos_iff.2 hb;have HPG:=Hh (fun W (h:Below w.heap.size w W)=>Bs b v W (hv.below h) hb);have HIT:=Hh (fun K n (k m:Int) hk hm W (h:Below w.heap.size w W) h0 h1=>Cq K b v n k m hk hm W (hv.below h) h0 h1 hl);obtain⟨hp7,hat3,hnx,hp2⟩:=Rx b;rw[lS];obtain⟨⟨p,at'⟩,hpg⟩:∃ x,dE b=x:=⟨_,rfl⟩;rw[hpg] at HPG hp7 hat3 hnx hp2 ⊢;dsimp only at HPG hp7 hat3 hnx hp2 ⊢;clear hpg;have HV:=Hh hv.byt;obtain⟨a,c,rfl,_,_⟩:=hv;unfold rN;have hlen0:(0:Int)<(b.length:Int):=om
 by_cases hge:b.length≤at'
 · rw[if_pos hge];have HI:=Hh (fun W h=>HIT.out 4 b.length 4 b.length rfl rfl W h hpos lr);have h1:(b.length:Int)≤(at':Int):=om
   clear hge HIT;unfold Qy;go_enter func28,ntmps28
   go_wp2_with fail
   have hal:Below w.heap.size w (w.alloc (.cells #[.int .i64 0,.slice none 0 0,.string ⟨#[]⟩,.slice none 0 0,.bool false] 55)):=br.alloc lr _;(with_reducible refine (HPG.out _ hal).mono ?_);rintro e w1 ⟨rfl,rfl⟩;go_wp2_with fail
   have HBX0:=Hh (aF w (.cells #[.int .i64 0,.slice none 0 0,.string ⟨#[]⟩,.slice none 0 0,.bool false] 55));have HBW:=Hh hal;clear hal;(with_reducible refine (HI.out _ HBW.out).mono ?_);rintro e w2 ⟨vr,rfl,ho,hb2⟩;obtain⟨a1,c1,rfl⟩:=aI ho;have hbx:=aB HBX0.out hb2 (aA HBX0.out);have HB2:=Hh (HBW.out.trans (hb2.mono HBW.out.size));have HO:=Hh (bR ho (show w.heap.size+1≤_ from aA HBX0.out));have HBX:=Hh hbx;obtain⟨⟨q0,q1,q2,q3,q4⟩,f0,f1,f2,f3,f4⟩:=bJ hbx;have hlx:=aA hbx;clear ho hb2 hbx;simp only[itV,List.take_length] at HO ⊢;go_wp2_with fail
   generalize hF:World.setCell (World.setCell (World.setCell (World.setCell (World.setCell w2 _ _) _ _) _ _) _ _) _ _=F;obtain⟨hfx,hit,hbf⟩:=rD HB2.out HBX.out HO.out sm hF;clear hF;obtain⟨⟨r0,r1,r2,r3,r4⟩,_⟩:=bJ hfx;have hlf:=aA hfx;exact bodyPost_ret (by simp[results,results28,go_sem,itV,r0,r1,r2,r3,r4]) rfl ⟨_,_,rfl,hit,hbf⟩
 rw[if_neg hge];obtain⟨x,hx⟩:∃ x,b[at']? = some x:=⟨_,List.getElem?_eq_getElem om⟩;have hgd:b.getD at' 0=x:=by rw[List.getD_eq_getElem?_getD,hx];rfl
 rw[hgd];have hent:=fun e he=>aAF (e:=e) x hp7 he;have HA:=Hh (fun W=>hAt p x W hp7);unfold pY at HA;obtain⟨⟨oe,kd⟩,hoe⟩:∃ y,atR p x.toNat=y:=⟨_,rfl⟩;have hk3:kd=3→2≤b.length:=fun e=>by
  have h1:=aAB ⟨p,hp7⟩ ⟨x.toNat,x.toNat_lt⟩;dsimp only at h1;rw[←rE x hp7,hoe] at h1
  have:=hp2 (h1 e)
  omega
 rw[hoe] at hent HA ⊢;dsimp only at hent HA ⊢;obtain⟨E,hE⟩:∃ E,oe.getD ent0=E:=⟨_,rfl⟩;have hE':oe.getD ⟨0,0,[],[],[],false⟩=E:=hE;rw[hE] at HA;rw[hE'];obtain⟨he1,he2,he3,he4,he5⟩:=hent E hE;clear hE hE' hoe hent hgd;have h1:¬ (b.length:Int)≤(at':Int):=om
 have h2:(at':Int)<(b.length:Int):=om
 have h3:(0:Int)≤(at':Int):=om
 obtain⟨_,_,hv0,hcap,hcs⟩:=HV.out;cases hv0
 obtain⟨g,o,rfl,hg,hcs⟩:=hcs hb;have cx:=hcs at' x hx;have HCS:=Hh hcs;have HE4:=Hh he4;have HE5:=Hh he5;unfold Qy;clear hcs hcap hge hx he4 he5;obtain⟨page,op,mn,args,ex,al⟩:=E;dsimp only at he1 he2 he3 HE4 HE5 HA ⊢;by_cases hk0:kd=0
 · subst hk0;rw[if_pos rfl];have HI:=Hh (fun W h=>HIT.out 2 1 2 1 rfl rfl W h om hpos);clear HIT hk3 hnx hp2 he1 he2 he3;go_enter func28,ntmps28
   go_wp2_with fail
   have hal:Below w.heap.size w (w.alloc (.cells #[.int .i64 0,.slice none 0 0,.string ⟨#[]⟩,.slice none 0 0,.bool false] 55)):=br.alloc lr _;(with_reducible refine (HPG.out _ hal).mono ?_);rintro e w1 ⟨rfl,rfl⟩;have HBX0:=Hh (aF w (.cells #[.int .i64 0,.slice none 0 0,.string ⟨#[]⟩,.slice none 0 0,.bool false] 55));have HBW:=Hh hal;clear hal;go_wp2_with fail
   (with_reducible refine (HA.out _).mono ?_);rintro e w2 ⟨ve,rfl,hoe,hb2⟩;have hoe':=hoe;obtain⟨ae,ce,rfl,_⟩:=hoe';have hbx:=aB HBX0.out hb2 (aA HBX0.out);have hb2w:=HBW.out.trans (hb2.mono HBW.out.size);clear HBX0 HBW hb2;go_wp2_with fail
   generalize hW3:World.alloc w2 _=W3;have hb23:Below w2.heap.size w2 W3:=by rw[←hW3];exact br.alloc lr _
   have hen3:W3.heap[w2.heap.size]? = some (.cells #[.int .i64 page,.int .u8 op,.string ⟨mn.toArray⟩,.slice ae args.length ce,.string ⟨ex.toArray⟩,.bool al] 107 (0,0)):=by rw[←hW3];exact aF _ _
   have HBX3:=Hh (aB hbx hb23 (aA hbx));have HBW3:=Hh (hb2w.trans (hb23.mono hb2w.size));have HEN3:=Hh hen3;have HOE3:=Hh (hoe.below hb23);have HSZ:=Hh (show w.heap.size<w2.heap.size from aA hbx);clear hW3 hb23 hbx hb2w hen3 hoe;(with_reducible refine (HI.out _ HBW3.out).mono ?_);rintro e w4 ⟨vr,rfl,ho,hb4⟩;obtain⟨a1,c1,rfl⟩:=aI ho;have hbx4:=aB HBX3.out hb4 (aA HBX3.out);have HB2:=Hh (HBW3.out.trans (hb4.mono HBW3.out.size));have HO:=Hh (bR ho (show w.heap.size+1≤_ from aA HBX3.out));have HBX:=Hh hbx4;obtain⟨⟨q0,q1,q2,q3,q4⟩,f0,f1,f2,f3,f4⟩:=bJ hbx4;have hlx:=aA hbx4;clear ho hb4 hbx4;simp only[itV];go_wp2_with fail
   generalize hF:World.setCell (World.setCell (World.setCell (World.setCell (World.setCell w4 _ _) _ _) _ _) _ _) _ _=F;obtain⟨hfx,hit,hbf⟩:=rD HB2.out HBX.out HO.out (by rw[List.length_take];omega) hF;clear hF;obtain⟨⟨r0,r1,r2,r3,r4⟩,_⟩:=bJ hfx;have hlf:=aA hfx;exact bodyPost_ret (by simp[results,results28,go_sem,itV,r0,r1,r2,r3,r4]) rfl ⟨_,_,rfl,hit,hbf⟩
 rw[if_neg hk0];by_cases hk1:kd=3
 · have hb2:=hk3 hk1;subst hk1;rw[if_pos rfl];have HI:=Hh (fun W h=>HIT.out 3 2 3 2 rfl rfl W h om hb2);have HB22:=Hh hb2;clear HIT hk3 hnx hp2 he1 he2 he3 hk0 hb2;go_enter func28,ntmps28
   go_wp2_with fail
   have hal:Below w.heap.size w (w.alloc (.cells #[.int .i64 0,.slice none 0 0,.string ⟨#[]⟩,.slice none 0 0,.bool false] 55)):=br.alloc lr _;(with_reducible refine (HPG.out _ hal).mono ?_);rintro e w1 ⟨rfl,rfl⟩;have HBX0:=Hh (aF w (.cells #[.int .i64 0,.slice none 0 0,.string ⟨#[]⟩,.slice none 0 0,.bool false] 55));have HBW:=Hh hal;clear hal;go_wp2_with fail
   (with_reducible refine (HA.out _).mono ?_);rintro e w2 ⟨ve,rfl,hoe,hb2⟩;have hoe':=hoe;obtain⟨ae,ce,rfl,_⟩:=hoe';have hbx:=aB HBX0.out hb2 (aA HBX0.out);have hb2w:=HBW.out.trans (hb2.mono HBW.out.size);clear HBX0 HBW hb2;go_wp2_with fail
   generalize hW3:World.alloc w2 _=W3;have hb23:Below w2.heap.size w2 W3:=by rw[←hW3];exact br.alloc lr _
   have hen3:W3.heap[w2.heap.size]? = some (.cells #[.int .i64 page,.int .u8 op,.string ⟨mn.toArray⟩,.slice ae args.length ce,.string ⟨ex.toArray⟩,.bool al] 107 (0,0)):=by rw[←hW3];exact aF _ _
   have HBX3:=Hh (aB hbx hb23 (aA hbx));have HBW3:=Hh (hb2w.trans (hb23.mono hb2w.size));have HEN3:=Hh hen3;have HOE3:=Hh (hoe.below hb23);have HSZ:=Hh (show w.heap.size<w2.heap.size from aA hbx);clear hW3 hb23 hbx hb2w hen3 hoe;(with_reducible refine (HI.out _ HBW3.out).mono ?_);rintro e w4 ⟨vr,rfl,ho,hb4⟩;obtain⟨a1,c1,rfl⟩:=aI ho;have hbx4:=aB HBX3.out hb4 (aA HBX3.out);have HB2:=Hh (HBW3.out.trans (hb4.mono HBW3.out.size));have HO:=Hh (bR ho (show w.heap.size+1≤_ from aA HBX3.out));have HBX:=Hh hbx4;obtain⟨⟨q0,q1,q2,q3,q4⟩,f0,f1,f2,f3,f4⟩:=bJ hbx4;have hlx:=aA hbx4;clear ho hb4 hbx4;simp only[itV];go_wp2_with fail
   generalize hF:World.setCell (World.setCell (World.setCell (World.setCell (World.setCell w4 _ _) _ _) _ _) _ _) _ _=F;obtain⟨hfx,hit,hbf⟩:=rD HB2.out HBX.out HO.out (by rw[List.length_take];have:=HB22.out;omega) hF;clear hF;obtain⟨⟨r0,r1,r2,r3,r4⟩,_⟩:=bJ hfx;have hlf:=aA hfx;exact bodyPost_ret (by simp[results,results28,go_sem,itV,r0,r1,r2,r3,r4]) rfl ⟨_,_,rfl,hit,hbf⟩
 rw[if_neg hk1];have e0:((kd:Int) == 0)=false:=by simp;omega
 have e3:((kd:Int) == 3)=false:=by simp;omega
 have HS9:=Hh (fun a' n' c' W=>Fx ⟨page,op,mn,args,ex,al⟩ a' n' c' W he1 (by dsimp only;omega));unfold nG;obtain⟨sz,hsz⟩:∃ sz,kW ⟨page,op,mn,args,ex,al⟩=sz:=⟨_,rfl⟩;rw[hsz] at HS9 ⊢;dsimp only at HS9 ⊢;clear hk0 hk1 hk3 hp2;by_cases hlt:b.length<sz
 · rw[if_pos hlt];have HI:=Hh (fun W h=>HIT.out 4 b.length 4 b.length rfl rfl W h hpos lr);have e4:(b.length:Int)<(sz:Int):=om
   clear HIT hnx he1 he2 he3 hsz hlt;go_enter func28,ntmps28
   go_wp2_with fail
   have hal:Below w.heap.size w (w.alloc (.cells #[.int .i64 0,.slice none 0 0,.string ⟨#[]⟩,.slice none 0 0,.bool false] 55)):=br.alloc lr _;(with_reducible refine (HPG.out _ hal).mono ?_);rintro e w1 ⟨rfl,rfl⟩;have HBX0:=Hh (aF w (.cells #[.int .i64 0,.slice none 0 0,.string ⟨#[]⟩,.slice none 0 0,.bool false] 55));have HBW:=Hh hal;clear hal;go_wp2_with fail
   (with_reducible refine (HA.out _).mono ?_);rintro e w2 ⟨ve,rfl,hoe,hb2⟩;have hoe':=hoe;obtain⟨ae,ce,rfl,_⟩:=hoe';have hbx:=aB HBX0.out hb2 (aA HBX0.out);have hb2w:=HBW.out.trans (hb2.mono HBW.out.size);clear HBX0 HBW hb2;go_wp2_with fail
   generalize hW3:World.alloc w2 _=W3;have hb23:Below w2.heap.size w2 W3:=by rw[←hW3];exact br.alloc lr _
   have hen3:W3.heap[w2.heap.size]? = some (.cells #[.int .i64 page,.int .u8 op,.string ⟨mn.toArray⟩,.slice ae args.length ce,.string ⟨ex.toArray⟩,.bool al] 107 (0,0)):=by rw[←hW3];exact aF _ _
   have HBX3:=Hh (aB hbx hb23 (aA hbx));have HBW3:=Hh (hb2w.trans (hb23.mono hb2w.size));have HEN3:=Hh hen3;have HOE3:=Hh (hoe.below hb23);have HSZ:=Hh (show w.heap.size<w2.heap.size from aA hbx);clear hW3 hb23 hbx hb2w hen3 hoe;obtain⟨⟨x0,x1,x2,x3,x4,x5⟩,_⟩:=aN HEN3.out;have hlen3:=aA HEN3.out;go_wp2_with fail
   (with_reducible refine (HS9.out _ _ _ _).mono ?_);rintro e w3 ⟨rfl,hb3⟩;have HBX5:=Hh (aB HBX3.out hb3 (aA HBX3.out));have HBW5:=Hh (HBW3.out.trans (hb3.mono HBW3.out.size));clear x0 x1 x2 x3 x4 x5 hlen3 hb3 HBX3 HBW3;have HBX3:=HBX5;have HBW3:=HBW5;clear HBX5 HBW5;go_wp2_with fail
   (with_reducible refine (HI.out _ HBW3.out).mono ?_);rintro e w4 ⟨vr,rfl,ho,hb4⟩;obtain⟨a1,c1,rfl⟩:=aI ho;have hbx4:=aB HBX3.out hb4 (aA HBX3.out);have HB2:=Hh (HBW3.out.trans (hb4.mono HBW3.out.size));have HO:=Hh (bR ho (show w.heap.size+1≤_ from aA HBX3.out));have HBX:=Hh hbx4;obtain⟨⟨q0,q1,q2,q3,q4⟩,f0,f1,f2,f3,f4⟩:=bJ hbx4;have hlx:=aA hbx4;clear ho hb4 hbx4;simp only[itV,List.take_length] at HO ⊢;go_wp2_with fail
   generalize hF:World.setCell (World.setCell (World.setCell (World.setCell (World.setCell w4 _ _) _ _) _ _) _ _) _ _=F;obtain⟨hfx,hit,hbf⟩:=rD HB2.out HBX.out HO.out sm hF;clear hF;obtain⟨⟨r0,r1,r2,r3,r4⟩,_⟩:=bJ hfx;have hlf:=aA hfx;exact bodyPost_ret (by simp[results,results28,go_sem,itV,r0,r1,r2,r3,r4]) rfl ⟨_,_,rfl,hit,hbf⟩
 rw[if_neg hlt];obtain⟨NX,hNX⟩:∃ NX,(if 5≤p then 2 else at'+1)=NX:=⟨_,rfl⟩;rw[hNX] at hnx ⊢;have hsz1:0<sz:=by rw[←hsz];unfold kW;omega
 have hbd:ex≠[]→NX+ex.length+ex.count 119≤b.length:=fun h=>by
  have h1:=HE5.out h;rw[←hsz] at hlt;unfold kW at hlt;dsimp only at hlt h1;rw[h1] at hlt;omega
 obtain⟨X,hX⟩:∃ X,eL ex (b.drop NX) 0 0=X:=⟨_,rfl⟩;rw[hX];have HX:=Hh hX;have HBD:=Hh hbd;have hNX4:NX≤4:=by rw[←hNX];split<;>omega
 have HI:=Hh (fun W h=>HIT.out 1 sz 1 sz rfl rfl W h hsz1 om);have e4:¬ (b.length:Int)<(sz:Int):=om
 have e5:5≤p∧NX=2∨¬ 5≤p∧NX=at'+1:=by
  by_cases h5:5≤p
  · rw[if_pos h5] at hNX;exact .inl ⟨h5,hNX.symm⟩
  · rw[if_neg h5] at hNX;exact .inr ⟨h5,hNX.symm⟩
 have HFI:=Hh (fun v' d n W h=>Db ⟨page,op,mn,args,ex,al⟩ v' d n W h (by dsimp only;omega) (by dsimp only;omega));have HSL:=Hh (show sz≤b.length by omega);have HLN:=Hh (show decide (b.length<sz)=false from decide_eq_false hlt)
 have HEL:=Hh he3;have hexl:ex.length≤100:=om
 clear HIT hnx hX hbd he1 he2 he3 hsz1 hNX hsz hlt;rcases e5 with⟨h5,rfl⟩|⟨h5,rfl⟩;all_goals
  have h5i:decide (5≤(p:Int))=decide (5≤p):=by simp;omega
  first|rw[decide_eq_true h5] at h5i|rw[decide_eq_false h5] at h5i
  clear h5;go_enter func28,ntmps28
  go_wp2_with fail
  have hal:Below w.heap.size w (w.alloc (.cells #[.int .i64 0,.slice none 0 0,.string ⟨#[]⟩,.slice none 0 0,.bool false] 55)):=br.alloc lr _;(with_reducible refine (HPG.out _ hal).mono ?_);rintro e w1 ⟨rfl,rfl⟩;have HBX0:=Hh (aF w (.cells #[.int .i64 0,.slice none 0 0,.string ⟨#[]⟩,.slice none 0 0,.bool false] 55));have HBW:=Hh hal;clear hal;go_wp2_with fail
  (with_reducible refine (HA.out _).mono ?_);rintro e w2 ⟨ve,rfl,hoe,hb2⟩;have hoe':=hoe;obtain⟨ae,ce,rfl,_⟩:=hoe';have hbx:=aB HBX0.out hb2 (aA HBX0.out);have hb2w:=HBW.out.trans (hb2.mono HBW.out.size);clear HBX0 HBW hb2;go_wp2_with fail
  generalize hW3:World.alloc w2 _=W3;have hb23:Below w2.heap.size w2 W3:=by rw[←hW3];exact br.alloc lr _
  have hen3:W3.heap[w2.heap.size]? = some (.cells #[.int .i64 page,.int .u8 op,.string ⟨mn.toArray⟩,.slice ae args.length ce,.string ⟨ex.toArray⟩,.bool al] 107 (0,0)):=by rw[←hW3];exact aF _ _
  have HBX3:=Hh (aB hbx hb23 (aA hbx));have HBW3:=Hh (hb2w.trans (hb23.mono hb2w.size));have HEN3:=Hh hen3;have HOE3:=Hh (hoe.below hb23);have HSZ:=Hh (show w.heap.size<w2.heap.size from aA hbx);clear hW3 hb23 hbx hb2w hen3 hoe;obtain⟨⟨x0,x1,x2,x3,x4,x5⟩,_⟩:=aN HEN3.out;have hlen3:=aA HEN3.out;go_wp2_with fail
  (with_reducible refine (HS9.out _ _ _ _).mono ?_);rintro e W5 ⟨rfl,hb3⟩;have HBX5:=Hh (aB HBX3.out hb3 (aA HBX3.out));have HBW5:=Hh (HBW3.out.trans (hb3.mono HBW3.out.size));have HEN5:=Hh (aB HEN3.out hb3 hlen3);have HOE5:=Hh (HOE3.out.below hb3);clear x0 x1 x2 x3 x4 x5 hlen3 hb3 HBX3 HBW3 HEN3 HOE3;obtain⟨⟨x0,x1,x2,x3,x4,x5⟩,_⟩:=aN HEN5.out;have hlen5:=aA HEN5.out;go_wp2_with fail
  rw[HLN.out];go_loopw [8,9,10,11] (fun dv nv xv i wr=>∃ (j nx:Nat) (d' n':Int),j≤ex.length∧i=.int .i64 j∧xv=.int .i64 nx∧dv=.int .i64 d'∧nv=.int .i64 n'∧nx≤10+j∧Hid (eL (ex.drop j) (b.drop nx) d' n'=X)∧Hid (j<ex.length→nx+(ex.length - j)+(ex.drop j).count 119≤b.length)∧Hid (wr.heap[w.heap.size]? = some (.cells #[.int .i64 0,.slice none 0 0,.string ⟨#[]⟩,.slice none 0 0,.bool false] 55 (0,0)))∧Hid (Below w.heap.size w wr)∧Hid (wr.heap[w2.heap.size]? = some (.cells #[.int .i64 page,.int .u8 op,.string ⟨mn.toArray⟩,.slice ae args.length ce,.string ⟨ex.toArray⟩,.bool al] 107 (0,0)))∧Hid (Row wr (.slice ae args.length ce) args.length (opc args))) (fun _ _ _ i _=>ex.length - (intOf i).toNat)
  case atStart=>exact⟨0,_,0,0,Nat.zero_le _,rfl,by first|rfl|(go_num;done)|(simp;done),rfl,rfl,om,HX,Hh (fun h=>by have:=HBD.out (by rintro rfl;exact absurd h (Nat.not_lt_zero _));rw[List.drop_zero];omega),HBX5,HBW5,HEN5,HOE5⟩
  case round =>
   obtain⟨j,nx,d',n',hj,rfl,rfl,rfl,rfl,hnx,HRX,HBD2,HBX5,HBW5,HEN5,HOE5⟩:=hrel;clear x0 x1 x2 x3 x4 x5 hlen5;obtain⟨⟨x0,x1,x2,x3,x4,x5⟩,_⟩:=aN HEN5.out;have hlen5:=aA HEN5.out;by_cases hlt:j<ex.length
   · obtain⟨x',hx'⟩:∃ x,ex[j]? = some x:=⟨_,List.getElem?_eq_getElem hlt⟩;have hsp:j<(⟨ex.toArray⟩:ByteArray).size:=by show j<ex.toArray.size;simpa using hlt
     have hix:=Ba ex j x' hx' hsp;have hdr:ex.drop j=x'::ex.drop (j+1):=by rw[List.drop_eq_getElem_cons hlt,(List.getElem?_eq_some_iff.1 hx').2]
     have hbd:=HBD2.out hlt;rw[hdr,List.count_cons] at hbd;have HDR:=Hh hdr;have hi3:(j:Int)<(ex.length:Int):=om
     have HBD3:=Hh hbd;have hcc:=HE4.out x' (List.mem_of_getElem? hx');clear hdr hbd hx';rcases hcc with rfl|rfl|rfl|rfl
     · have hbd2:=HBD3.out;simp at hbd2
       obtain⟨y,hy⟩:∃ y,b[nx]? = some y:=⟨_,List.getElem?_eq_getElem om⟩;have cy:=(HBW5.out.cell (p:=⟨g,o+nx,none⟩) hg).trans (HCS.out nx y hy);have hi1:(nx:Int)<(b.length:Int):=om
       have hr0:(b.drop nx).getD 0 0=y:=by rw[List.getD_eq_getElem?_getD,List.getElem?_drop,Nat.add_zero,hy];rfl
       have hst:eL (ex.drop (j+1)) (b.drop (nx+1)) (sgn y) (n')=X:=by
        rw[←HRX.out,HDR.out,eL];simp only[hr0];simp[List.drop_drop]
       have HST:=Hh hst;have HBD2:=Hh hbd2;clear hst hr0 hy hbd2;go_wp2_with fail
       (with_reducible refine (uI y _).mono ?_);rintro e w9 ⟨rfl,rfl⟩;go_wp2_with fail
       go_roundw
       case rel =>
        exact⟨j+1,nx+1,sgn y,n',om,by go_num,by go_num,rfl,rfl,om,HST,Hh (fun h=>by have:=HBD2.out;omega),HBX5,HBW5,HEN5,HOE5⟩
       case measure=>simp[intOf];omega
     · have hbd2:=HBD3.out;simp at hbd2
       obtain⟨y,hy⟩:∃ y,b[nx]? = some y:=⟨_,List.getElem?_eq_getElem om⟩;have cy:=(HBW5.out.cell (p:=⟨g,o+nx,none⟩) hg).trans (HCS.out nx y hy);have hi1:(nx:Int)<(b.length:Int):=om
       have hr0:(b.drop nx).getD 0 0=y:=by rw[List.getD_eq_getElem?_getD,List.getElem?_drop,Nat.add_zero,hy];rfl
       have hst:eL (ex.drop (j+1)) (b.drop (nx+1)) (d') (sgn y)=X:=by
        rw[←HRX.out,HDR.out,eL];simp only[hr0];simp[List.drop_drop]
       have HST:=Hh hst;have HBD2:=Hh hbd2;clear hst hr0 hy hbd2;go_wp2_with fail
       (with_reducible refine (uI y _).mono ?_);rintro e w9 ⟨rfl,rfl⟩;go_wp2_with fail
       go_roundw
       case rel =>
        exact⟨j+1,nx+1,d',sgn y,om,by go_num,by go_num,rfl,rfl,om,HST,Hh (fun h=>by have:=HBD2.out;omega),HBX5,HBW5,HEN5,HOE5⟩
       case measure=>simp[intOf];omega
     · have hbd2:=HBD3.out;simp at hbd2
       obtain⟨y,hy⟩:∃ y,b[nx]? = some y:=⟨_,List.getElem?_eq_getElem om⟩;have cy:=(HBW5.out.cell (p:=⟨g,o+nx,none⟩) hg).trans (HCS.out nx y hy);have hi1:(nx:Int)<(b.length:Int):=om
       have hyl:=y.toNat_lt;have hr0:(b.drop nx).getD 0 0=y:=by rw[List.getD_eq_getElem?_getD,List.getElem?_drop,Nat.add_zero,hy];rfl
       have hst:eL (ex.drop (j+1)) (b.drop (nx+1)) (d') ((y.toNat:Int))=X:=by
        rw[←HRX.out,HDR.out,eL];simp only[hr0];simp[List.drop_drop]
       have HST:=Hh hst;have HBD2:=Hh hbd2;clear hst hr0 hy hbd2;go_wp2_with fail
       go_roundw
       case rel=>exact⟨j+1,nx+1,d',(y.toNat:Int),om,by go_num,by go_num,rfl,by first|rfl|(congr 1;omega),om,HST,Hh (fun h=>by have:=HBD2.out;omega),Hh HBX5.out,Hh ⟨HBW5.out.os,HBW5.out.tape,HBW5.out.output,HBW5.out.size,HBW5.out.block⟩,Hh HEN5.out,Hh HOE5.out⟩
       case measure=>simp[intOf];omega
     · have hbd2:=HBD3.out;simp at hbd2
       obtain⟨y,hy⟩:∃ y,b[nx]? = some y:=⟨_,List.getElem?_eq_getElem om⟩;have cy:=(HBW5.out.cell (p:=⟨g,o+nx,none⟩) hg).trans (HCS.out nx y hy);have hi1:(nx:Int)<(b.length:Int):=om
       have hr0:(b.drop nx).getD 0 0=y:=by rw[List.getD_eq_getElem?_getD,List.getElem?_drop,Nat.add_zero,hy];rfl
       obtain⟨z,hz⟩:∃ z,b[nx+1]? = some z:=⟨_,List.getElem?_eq_getElem om⟩;have cz:=(HBW5.out.cell (p:=⟨g,o+(nx+1),none⟩) hg).trans (HCS.out (nx+1) z hz);have cz1:=cz;rw[←Nat.add_assoc] at cz;have hq4:((nx:Int)+1).toNat=nx+1:=om
       have hi2:(nx:Int)+1<(b.length:Int):=om
       have hr1:(b.drop nx).getD 1 0=z:=by rw[List.getD_eq_getElem?_getD,List.getElem?_drop,hz];rfl
       have hq1:(0:Int)≤(nx:Int)+1:=om
       have hq2:IntKind.i64.wrap ((nx:Int)+1)=(nx:Int)+1:=IntWalk.i64_in _ om;have hq3:(nx:Int)+1≤1000:=om
       have hq0:(0:Int)≤(nx:Int):=om
       have hyl:=y.toNat_lt;have hzl:=z.toNat_lt;have hst:eL (ex.drop (j+1)) (b.drop (nx+1)) (d') (((y.toNat:Int)+256*(z.toNat:Int)))=X:=by
        rw[←HRX.out,HDR.out,eL];simp only[hr0,hr1];simp[List.drop_drop]
       have HST:=Hh hst;have HBD2:=Hh hbd2;clear hst hr0 hy hbd2 hr1 hz;go_wp2_with fail
       go_quiet (fail)
       go_wp2_with fail
       go_roundw
       case rel=>exact⟨j+1,nx+1,d',((y.toNat:Int)+256*(z.toNat:Int)),om,by go_num,by go_num,rfl,by first|rfl|(congr 1;omega),om,HST,Hh (fun h=>by have:=HBD2.out;omega),Hh HBX5.out,Hh ⟨HBW5.out.os,HBW5.out.tape,HBW5.out.output,HBW5.out.size,HBW5.out.block⟩,Hh HEN5.out,Hh HOE5.out⟩
       case measure=>simp[intOf];omega
   · obtain rfl:j=ex.length:=om
     have hX:=HRX.out;rw[List.drop_length,eL] at hX;have HXE:=Hh hX;clear hX;go_wp2_with fail
     (with_reducible refine (HI.out _ HBW5.out).mono ?_);rintro e w6 ⟨vr,rfl,ho,hb6⟩;obtain⟨a1,c1,rfl⟩:=aI ho;have HBX6:=Hh (aB HBX5.out hb6 (aA HBX5.out));have HBW6:=Hh (HBW5.out.trans (hb6.mono HBW5.out.size));have HEN6:=Hh (aB HEN5.out hb6 hlen5);have HOE6:=Hh (HOE5.out.below hb6);have HO6:=Hh (bR ho (show w.heap.size+1≤_ from Nat.le_trans HSZ.out (Nat.le_of_lt hlen5)))
     have HOL:=Hh (fun q (hq:(Value.slice a1 sz c1).ownBlock=some q)=>(HO6.out.lt q hq).2);clear ho hb6 x0 x1 x2 x3 x4 x5;simp only[itV];obtain⟨⟨x0,x1,x2,x3,x4,x5⟩,_⟩:=aN HEN6.out;have hlen6:=aA HEN6.out;go_wp2_with fail
     generalize hW7:World.alloc w6 _=W7;have hb67:Below w6.heap.size w6 W7:=by rw[←hW7];exact br.alloc lr _
     have h7b:W7.heap[w6.heap.size]? = some (.cells #[.int .i64 1,.slice a1 sz c1,.string ⟨#[]⟩,.slice none 0 0,.bool false] 55 (0,0)):=by rw[←hW7];exact aF _ _
     have HO7:=Hh (bK HO6.out hb67);have HOE7:=Hh (HOE6.out.below hb67);have HBX7:=Hh (aB HBX6.out hb67 (aA HBX6.out));have HEN7:=Hh (aB HEN6.out hb67 hlen6);have HBW7:=Hh (HBW6.out.trans (hb67.mono HBW6.out.size));have HH7:=Hh h7b;have hs67:w.heap.size<w6.heap.size:=aA HBX6.out;have hs6e:w2.heap.size<w6.heap.size:=hlen6;clear hW7 hb67 h7b x0 x1 x2 x3 x4 x5 hlen6;obtain⟨D,hD⟩:∃ D,lU ⟨page,op,mn,args,ex,al⟩ d' n'=D:=⟨_,rfl⟩;have hfi:=HFI.out (.slice ae args.length ce) d' n' W7 ⟨HOE7.out⟩;rw[hD] at hfi;have HD:=Hh hD;clear hD;(with_reducible refine hfi.mono ?_);rintro e w8 hfr;obtain⟨af,cf,bf,rfl,hof,hb8⟩:=Da hfr;clear hfi hfr;have HBX8:=Hh (aB HBX7.out hb8 (aA HBX7.out));have HEN8:=Hh (aB HEN7.out hb8 (aA HEN7.out));have HH8:=Hh (aB HH7.out hb8 (aA HH7.out));have HO8:=Hh (bK HO7.out hb8);have HBW8:=Hh (HBW7.out.trans (hb8.mono HBW7.out.size));have hs7:w6.heap.size<W7.heap.size:=aA HH7.out;have HOF:=Hh hof;clear hb8 hof HBX7 HEN7 HH7 HO7 HBW7 HOE7;obtain⟨⟨x0,x1,x2,x3,x4,x5⟩,_⟩:=aN HEN8.out;obtain⟨⟨q0,q1,q2,q3,q4⟩,f0,f1,f2,f3,f4⟩:=bJ HH8.out;have hl8:=aA HEN8.out;have hl8b:=aA HH8.out;have hl8x:=aA HBX8.out;obtain⟨⟨p0,p1,p2,p3,p4⟩,g0,g1,g2,g3,g4⟩:=bJ HBX8.out;have hne1:w2.heap.size≠w6.heap.size:=om
     have hne2:w.heap.size≠w6.heap.size:=om
     have hne3:w6.heap.size≠w.heap.size:=om
     obtain⟨MN,hMN⟩:∃ MN,(bI D).1=MN:=⟨_,rfl⟩;obtain⟨AR,hAR⟩:∃ AR,(bI D).2=AR:=⟨_,rfl⟩;rw[hMN,hAR];rw[hAR] at HOF;have HMN:=Hh hMN;have HAR:=Hh hAR;clear hMN hAR;go_wp2_with fail
     generalize hG:World.setCell (World.setCell (World.setCell w8 _ _) _ _) _ _=G;have hkg:Kb w6.heap.size w8 G:=by rw[←hG];exact Kb.setCell (Kb.setCell (Kb.setCell (Kb.refl _ _) _ _) _ _) _ _
     clear hG x0 x1 x2 x3 x4 x5 q0 q1 q2 q3 q4 f0 f1 f2 f3 f4 p0 p1 p2 p3 p4 g0 g1 g2 g3 g4;generalize hF:World.setCell (World.setCell (World.setCell (World.setCell (World.setCell G _ _) _ _) _ _) _ _) _ _=F;have hkf:Kb w.heap.size G F:=by rw[←hF];exact cN _ _ _ _ _ _
     have hgx:=(hkg.block _ hl8x hne2).trans HBX8.out;have hfx:F.heap[w.heap.size]? = some (.cells #[.int .i64 1,.slice a1 sz c1,.string ⟨MN.toArray⟩,.slice af AR.length cf,.bool al] 55 (0,0)):=by rw[←hF];exact aG (aG (aG (aG (aG hgx))))
     have hbg:=bS HBW8.out HBW8.out.size hkg (Nat.le_of_lt hs67);have hbf:=bS hbg hbg.size hkf lr;have hraw:F.ownsRow w.heap.size 5 1 (.slice a1 sz c1) sz (aT (b.take sz)):=bR (Kb.owns (Kb.owns HO8.out hkg (fun e=>by have:=HOL.out _ e;omega)) hkf (fun e=>by have:=(HO8.out.lt _ e).1;omega)) (Nat.le_succ _)
     have harg:ORow F w.heap.size (.slice af AR.length cf) AR.length (opc AR):=(dV (dV HOF.out hkg hs7) hkf om).mono om;clear hF hkg hkf hgx hbg;obtain⟨⟨r0,r1,r2,r3,r4⟩,_⟩:=bJ hfx;have hlf:=aA hfx;have HSL2:=HSL.out;refine bodyPost_ret (v:=.agg #[.int .i64 1,.slice a1 sz c1,.string ⟨MN.toArray⟩,.slice af AR.length cf,.bool al]) (by simp[results,results28,go_sem,r0,r1,r2,r3,r4]) rfl ⟨.slice a1 sz c1,.slice af AR.length cf,?_,?_,hbf⟩
     · rw[←HXE.out];dsimp only;rw[HD.out];simp only[itV];rw[HMN.out];rfl
     · rw[←HXE.out];dsimp only;rw[HD.out];refine⟨?_,?_,fun _=>.inr trivial⟩
       · dsimp only;rw[List.length_take,Nat.min_eq_left HSL2];exact hraw
       · dsimp only;rw[HAR.out];exact harg
theorem zN (b:List UInt8) (v:Value) (w:World) (hv:Row w v b.length (aT b)) (hb:b≠[]) (hl:b.length≤100000):Calls prog 28 #[v] w (Qy (bX b) w):=by
 rw[sV b hb];exact Cy (fun page op W hp=>Uk page op.toNat hp op.toNat_lt W) b v w hv hb hl
theorem yE (b:List UInt8) (v:Value) (w:World) (hv:Row w v b.length (aT b)) (hl:b.length≤100000) :
 Calls prog 14 #[v] w fun e w'=>∃ v' its,e=.returned v'∧its.map Prod.fst=dI b∧ItsAt w' w.heap.size v' its∧Below w.heap.size w w':=by
 obtain⟨i0,hi,hz0,hz1,hz2⟩:=info_parts Tryz.infoItem;have HV:=Hh hv;obtain⟨a,c,rfl,hcap,_⟩:=hv;have hdl:=kK b;go_enter func14,ntmps14
 go_wp2_with fail
 go_loopw [0,3] (fun bs o wr=>∃ (q:Nat) (pre:List ItX),q≤b.length∧Hid (Row w bs (b.drop q).length (aT (b.drop q)))∧Hid (pre.map Prod.fst++dI (b.drop q)=dI b)∧Hid (ItsAt wr w.heap.size o pre)∧Hid (Below w.heap.size w wr)) (fun bs _ _=>match bs with | .slice _ n _=>n|_=>0)
 case atStart=>exact⟨0,[],Nat.zero_le _,Hh (by simpa using HV.out),Hh sm,Hh (ItsAt.nil _ _),Hh br⟩
 case round =>
  obtain⟨q,pre,hq,HR,HE,HI,HB⟩:=hrel;obtain⟨ab,cb,rfl,hcb,hcs⟩:=HR.out;obtain⟨av,cv,rfl⟩:=aI HI.out.own;by_cases hlt:q<b.length
  · have hne:b.drop q≠[]:=by intro e;have:=congrArg List.length e;simp at this;omega
    have hdc:=pQ (b.drop q) hne;have hrl:=kC (b.drop q) hne;have hbl:(b.drop q).length=b.length - q:=List.length_drop ..;have HF:=Hh (fun W (hb:Below wr.heap.size wr W)=>zN (b.drop q) (.slice ab (b.drop q).length cb) W ((HR.out.below HB.out).below hb) hne (by rw[hbl];omega));unfold Qy at HF;rw[List.drop_drop] at hdc;have hE:=HE.out;obtain⟨gb,ob,rfl,hgb,hcells⟩:=hcs (by intro e;have:=congrArg List.length e;rw[fS] at this;simp at this;omega);rw[hbl] at hrl;generalize hit:bX (b.drop q)=it at HF hdc hrl;rw[hdc] at hE;have hN:pre.length<(dI b).length:=by rw[←hE];simp
    have HEQ:=Hh hE;obtain⟨hr1,hr2,-⟩:=hrl;obtain⟨ki,ra,⟨im,ia⟩,ial⟩:=it;dsimp only at hr1 hr2;have hpl:pre.length≤100000:=om
    have hsz:=HB.out.size;have hi0:(0:Int)<((b.drop q).length:Int):=by rw[hbl];omega
    have hi1:(ra.length:Int)≤((b.drop q).length:Int):=by rw[hbl];omega
    have hi2:((b.drop q).length:Int)≤(cb:Int):=om
    have HBL:=Hh hbl;clear hdc hE hit hcells hcs hbl;generalize hML:(b.drop q).length=M at *;have HML:=Hh hML;clear hML;go_wp2_with fail
    (with_reducible refine (HF.out _ br).mono ?_);rintro e w2 ⟨vr,va,rfl,hit,hb2⟩;obtain⟨ar,cr,rfl⟩:=aI hit.raw;obtain⟨aa,ca,rfl⟩:=hit.args.slice;have hiv:itV ⟨ki,ra,(im,ia),ial⟩ (.slice ar ra.length cr) (.slice aa ia.length ca)=.agg #[.int .i64 ki,.slice ar ra.length cr,.string ⟨im.toArray⟩,.slice aa ia.length ca,.bool ial]:=rfl;dsimp only;rw[hiv];clear hiv;obtain⟨W3,hW3⟩:∃ W3,w2.alloc (.cells #[.int .i64 ki,.slice ar ra.length cr,.string ⟨im.toArray⟩,.slice aa ia.length ca,.bool ial] 55)=W3:=⟨_,rfl⟩;have hal:Below w2.heap.size w2 W3:=by rw[←hW3];exact br.alloc lr _
    have hbox:W3.heap[w2.heap.size]? = some (.cells #[.int .i64 ki,.slice ar ra.length cr,.string ⟨im.toArray⟩,.slice aa ia.length ca,.bool ial] 55 (0,0)):=by rw[←hW3];exact aF _ _
    have hb3:=hb2.trans (hal.mono hb2.size);have hit3:=(hit.mono hsz).below hal;have HI3:=Hh (HI.out.below hb3);have HB3:=Hh (HB.out.trans (hb3.mono hsz));have HT3:=Hh hit3;have HBOX:=Hh hbox;obtain⟨⟨q0,q1,q2,q3,q4⟩,_⟩:=bJ hbox;have hlx:=aA hbox;have hlown:∀ k,(Value.slice av pre.length cv).ownBlock=some k→k<w2.heap.size:=fun k hk=>Nat.lt_of_lt_of_le (HI.out.own.lt k hk).2 hb2.size;have HLO:=Hh hlown;clear hal hb2 hb3 hbox hit hit3 hlown;have hsz3:=HB3.out.size;go_wp2_with (at_builtin;refine wpList_append_own _ rfl _ _ 29 rfl w.heap.size 55 i0 (.agg #[.int .i64 0,.slice none 0 0,.string ⟨#[]⟩,.slice none 0 0,.bool false]) 5 80 underlying29 hi hz0 hz1 hz2 rfl dc _ _ _ rfl (HI3.out.own.alloc _) ⟨W3.heap.size,0,none⟩ 1 1 [.int .i64 ki,.slice ar ra.length cr,.string ⟨im.toArray⟩,.slice aa ia.length ca,.bool ial] rfl rfl (xP _ _ _ _ _ _ _) aAz (by unfold maxLen;omega) om (by simp;omega) ?_)
    intro v' w4 hown' hg4 _;obtain⟨g',cap',rfl⟩:=ownsRow_succ hown';have hal:Below W3.heap.size W3 (W3.alloc (.cells #[.int .i64 ki,.slice ar ra.length cr,.string ⟨im.toArray⟩,.slice aa ia.length ca,.bool ial] 55)):=br.alloc lr _;have hits4:=(HI3.out.below hal).snoc (x:=(⟨ki,ra,(im,ia),ial⟩,.slice ar ra.length cr,.slice aa ia.length ca)) (HT3.out.below hal) hown' hg4;have hb4:Below w.heap.size w w4:=(HB3.out.trans (hal.mono hsz3)).grown hg4 (by rw[World.size_alloc];omega) (fun k hk=>(HI3.out.own.lt k hk).1);have hbox4:w4.heap[w2.heap.size]? = some (.cells #[.int .i64 ki,.slice ar ra.length cr,.string ⟨im.toArray⟩,.slice aa ia.length ca,.bool ial] 55 (0,0)):=(hg4.block _ (by rw[World.size_alloc];omega) (fun e=>by have:=HLO.out _ e.symm;omega)).trans (aE HBOX.out);clear q0 q1 q2 q3 q4 hlx;obtain⟨⟨q0,q1,q2,q3,q4⟩,_⟩:=bJ hbox4;have hlx:=aA hbox4;have HB4:=Hh hb4;have HITS4:=Hh hits4;have HHG:=Hh hg4;clear hb4 hits4 hg4 hown' hal hbox4 hW3;go_wp2_with fail
    go_roundw
    case rel =>
     have hml:=HML.out;have hbl:=HBL.out;have hl2:(b.drop (q+ra.length)).length=M - ra.length:=by rw[List.length_drop];omega
     have hrow:Row w (.slice (if cb=ra.length then some ⟨gb,ob,none⟩ else some ⟨gb,ob+ra.length,none⟩) (M - ra.length) (cb - ra.length)) (M - ra.length) (aT (b.drop (q+ra.length))):=by
      by_cases hlast:ra.length<M
      · have hrd:=yB (k:=ra.length) HR.out hml.symm om;rw[List.drop_drop,hl2] at hrd;rw[if_neg om];exact hrd
      · have hz:b.drop (q+ra.length)=[]:=List.eq_nil_of_length_eq_zero om;rw[hz];exact⟨_,_,rfl,om,fun h=>absurd rfl h⟩
     refine⟨q+ra.length,pre++[(⟨ki,ra,(im,ia),ial⟩,.slice ar ra.length cr,.slice aa ia.length ca)],om,Hh (by rw[hl2];exact hrow),Hh (by rw[←HEQ.out];simp),HITS4,HB4⟩
    case measure=>dsimp only;omega
  · obtain rfl:q=b.length:=om
    rw[List.drop_length] at HR HE ⊢;have hE:=HE.out;rw[zT,List.append_nil] at hE;have HEQ:=Hh hE;clear hE;go_wp2_with fail
    go_ret;exact⟨_,pre,rfl,HEQ.out,HI.out,HB.out⟩
end Go.Proofs.YtoigglljnklhlaaGreatDoor
