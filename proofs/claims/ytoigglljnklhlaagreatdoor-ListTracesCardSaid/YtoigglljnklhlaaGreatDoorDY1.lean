/- Joined. -/
import Derived.Test.YtoigglljnklhlaaGreatDoorD23
import Derived.Test.YtoigglljnklhlaaGreatDoorD26
import Derived.Test.YtoigglljnklhlaaGreatDoorD27
import Derived.Test.YtoigglljnklhlaaGreatDoorDY3
set_option maxHeartbeats 8000000
set_option maxRecDepth 100000
namespace Go.Proofs.YtoigglljnklhlaaGreatDoor
open Go.RowKit Go.Sort
open Go.Proofs.Tryz
theorem aHz {w w':World} {v:Value} {n:Nat} {xs:List Value} (hs:eR w v n xs) (hb:Below w w w'):eR w' v n xs :=
 hs.imp (fun h=>h) (fun⟨ad,c',h1,h2⟩=>⟨ad,c',h1,fun j u hu=>(hb.cell (block_lt_of_cell (h2 j u hu))).trans (h2 j u hu)⟩)
theorem aNx {p:Prop} (h:p:=by
 rw[←hW0]
 have:=aF (w.alloc (.cells #[m,.slice a l.length c] 53)) (.cells #[(0:Int),.int .u8 0,(),zz,(),.bool false] 107)
 rwa [Qa] at this):p:=h
theorem aIT (m:List UInt8) (v:Value) (l:List Op3) (w:World) (hr:Row w v l.length (opc l)) (hs:eR w v l.length (opc l)) (hl:l.length≤900) :
 Calls prog 97 #[eU m v] w fun e w'=>∃ E a n c,e=.returned (.tuple #[cP E (.slice a n c),.int .i64 (aHx (m,l)).2])∧Below w w w':=by
 have hcl:(bV (m,l)).2.length≤l.length+1:=kM (m,l);rw[aIS];obtain⟨lc,hlc⟩:∃ lc,(bV (m,l)).2=lc:=⟨_,rfl⟩;have hcc:bV (m,l)=(m,lc):=by rw[←hlc];rfl
 have HCK:=Hh (fun W (hb:Below w w W)=>aIm m v l W (hr.below hb));have HOF:=Hh (fun W (hb:Below w w W)=>aJb m v l W (hr.below hb) (aHz hs hb) om);rw[hcc] at hcl HOF ⊢;dsimp only at hcl HOF ⊢;have HFI:=Hh (fun u W (h:Row W u lc.length (opc lc))=>aHD m u lc W h om);have HLA:=Hh (fun u W (h:Row W u lc.length (opc lc))=>aIQ m u lc W h om);have HSH:=Hh (fun E q u W (hE:EntAt E q W) (h:Row W u lc.length (opc lc)) (ha:E.args.length≤1000)=>aHs E q m u lc W hE h om ha);have HFT:=Hh (fun E q W (hb:Below w w W) (hE:EntAt E q W) (ha:E.args.length≤1000) (hx:E.extra.length≤1000)=>aJv E q m v l lc W hE om ha hx (fun W2 hb2=>(HOF.out W2 (hb.trans (hb2.mono hb.size))).mono (by
  rintro e w' ⟨v',he,h1,h2⟩;exact⟨v',he,h1,h2⟩)))
 obtain⟨k,hk⟩:∃ k,iR (m,l)=k:=⟨_,rfl⟩;rw[hk] at HCK ⊢;obtain⟨lo,hlo⟩:∃ lo,(if lc.any aOV=true then 3 else 0)=lo:=⟨_,rfl⟩;obtain⟨hi,hhi⟩:∃ hi,(if lc.any aOV=true then 6 else 2)=hi:=⟨_,rfl⟩;have hlh:lo≤hi+1∧hi<7:=by rw[←hlo,←hhi];cases lc.any aOV<;>decide
 have hloI:(if lc.any aOV=true then (3:Int) else 0)=(lo:Int):=by rw[←hlo];cases lc.any aOV<;>rfl
 have hhiI:(if lc.any aOV=true then (6:Int) else 2)=(hi:Int):=by rw[←hhi];cases lc.any aOV<;>rfl
 rw[hloI] at HFI;rw[hhiI] at HLA;rw[hlo,hhi];obtain⟨RES,hRES⟩:∃ R,kQ (fun e=>aHn e (m,lc)) (m,lc) (aHi hi lo) 11=R:=⟨_,rfl⟩;rw[hRES];obtain⟨a,c,rfl,_,_⟩:=hr;have HRES:=Hh hRES;have HLH:=Hh hlh;clear hs hl hcl hlc hcc hlo hhi hloI hhiI hk hRES hlh;unfold eU at *;by_cases hz:k=0
 · subst hz;rw[if_pos rfl];go_enter func97,ntmps97
   go_wp2_with fail
   obtain⟨W0,hW0⟩:∃ W,(w.alloc (.cells #[m,.slice a l.length c] 53)).alloc (.cells #[(0:Int),.int .u8 0,(),zz,(),.bool false] 107)=W:=⟨_,rfl⟩;have hb0:Below w w W0:=by rw[←hW0];exact bl
   have hx1:W0.heap[w.heap.size]? = some (.cells #[m,.slice a l.length c] 53 (0,0)):=by rw[←hW0];exact aE (aF _ _)
   have hx2:W0.heap[w.heap.size+1]? = some (.cells #[(0:Int),.int .u8 0,(),zz,(),.bool false] 107 (0,0)):=by
    exact aNx
   rw[hW0];have HB0:=Hh hb0;have HX1:=Hh hx1;have HX2:=Hh hx2;clear hW0 hb0 hx1 hx2;refine (HCK.out _ HB0.out).mono ?_;rintro e w1 ⟨rfl,hb1⟩;have HB1:=Hh (HB0.out.trans (hb1.mono HB0.out.size));have HY1:=Hh (aB HX1.out hb1 (aA HX1.out));have HY2:=Hh (aB HX2.out hb1 (aA HX2.out));clear hb1 HX1 HX2;obtain⟨p0,p1,_,_⟩:=aL HY1.out;have hl1:=aA HY1.out;go_wp2_with fail
   refine (HOF.out _ HB1.out).mono ?_;rintro e w2 ⟨v',rfl,hrow,hb2⟩;obtain⟨a',c',rfl,_,_⟩:=id hrow;have HB2:=Hh (HB1.out.trans (hb2.mono HB1.out.size));have HZ1:=Hh (aB HY1.out hb2 (aA HY1.out));have HZ2:=Hh (aB HY2.out hb2 (aA HY2.out));have HRW:=Hh hrow;clear hb2 HY1 HY2 hrow p0 p1 hl1;go_wp2_with fail
   obtain⟨W3,hW3⟩:∃ W,w2.alloc (.cells #[m,.slice a' lc.length c'] 53)=W:=⟨_,rfl⟩;have hb3:Below w2 w2 W3:=by rw[←hW3];exact br.alloc lr _
   have hx3:W3.heap[w2.heap.size]? = some (.cells #[m,.slice a' lc.length c'] 53 (0,0)):=by rw[←hW3];exact aF _ _
   rw[hW3];have HB3:=Hh (HB2.out.trans (hb3.mono HB2.out.size));have HV1:=Hh (aB HZ1.out hb3 (aA HZ1.out));have HV2:=Hh (aB HZ2.out hb3 (aA HZ2.out));have HRW3:=Hh (HRW.out.below hb3);generalize w2.heap.size=kc at hx3 ⊢;have HV3:=Hh hx3;clear hW3 hb3 hx3 HZ1 HZ2 HRW HB2;refine (HFI.out _ _ HRW3.out).mono ?_;rintro e w4 ⟨rfl,hb4⟩;have HBX:=Hh (fun W (hb:Below w4 w4 W) =>
    have hbw:=hb4.trans (hb.mono hb4.size)
    And.intro (aB HV1.out hbw (aA HV1.out)) (And.intro (aB HV2.out hbw (aA HV2.out)) (And.intro (aB HV3.out hbw (aA HV3.out)) (And.intro (HB3.out.trans (hbw.mono HB3.out.size)) (HRW3.out.below hbw)))))
   clear hb4 HV1 HV2 HV3 HB3 HRW3 HFI;go_wp2_with fail
   go_loopw [6,7] (fun cd pg wr=>∃ (p:Nat) (code:Int),p≤hi+1∧pg=.int .i64 p∧cd=.int .i64 code∧Hid (Below w4 w4 wr)∧Hid (kQ (fun e=>aHn e (m,lc)) (m,lc) (aHi hi p) code=RES)) (fun _ pg _=>hi+1 - (intOf pg).toNat)
   case atStart=>exact⟨lo,11,HLH.out.1,rfl,rfl,Hh br,HRES⟩
   case round =>
    obtain⟨p,code,hp1,rfl,rfl,HB,HSC⟩:=hrel;obtain⟨y1,y2,y3,yb,yr⟩:=HBX.out wr HB.out;obtain⟨p0,p1,_,_⟩:=aL y3;have hl3:=aA y3;have hhi:=HLH.out.2;have HYR:=Hh yr;clear y1 y2 y3 yb yr;go_wp2_with fail
    refine (HLA.out _ _ HYR.out).mono ?_;rintro e w5 ⟨rfl,hb5⟩;have HB5:=Hh (HB.out.trans (hb5.mono HB.out.size));clear hb5 p0 p1 hl3 HYR;by_cases hlt:p≤hi
    · have hle:(p:Int)≤(hi:Int):=om
      go_wp2_with fail
      go_loopw [6,8] (fun cd op W=>∃ (o:Nat) (code:Int),o≤256∧op=.int .i64 o∧cd=.int .i64 code∧Hid (Below w4 w4 W)∧Hid (kQ (fun e=>aHn e (m,lc)) (m,lc) (aIZ hi p o) code=RES)) (fun _ op _=>256 - (intOf op).toNat)
      case atStart=>exact⟨0,code,om,rfl,rfl,HB5,Hh (by rw[←aIH hi p hlt];exact HSC.out)⟩
      case round =>
       obtain⟨o,code2,ho1,rfl,rfl,HBI,HSI⟩:=hrel;by_cases ho:o<256
       · --[
         have hp7:p<7:=om
         obtain⟨hkd,hal,hxl⟩:=aKy hp7 ho;have hat:=Uk p o hp7 ho;rw[aKw hp7 ho] at hat;have hnx:=aKq hi p o ho;obtain⟨⟨oe,kd⟩,hoe⟩:∃ y,atP p o=y:=⟨_,rfl⟩;rw[hoe] at hkd hal hxl hat hnx;dsimp only at hkd hal hxl hnx;have HAT:=Hh hat;have hsi:=HSI.out;rw[hnx] at hsi;have HSJ:=Hh hsi;unfold pY at HAT;dsimp only at HAT;obtain⟨E,hE⟩:∃ E,oe.getD ent0=E:=⟨_,rfl⟩;rw[hE] at hal hxl HAT;have HEE:=Hh hE;clear hat hoe hnx hsi hE HSI;have hob:(o:Int)<256:=om
         go_wp2_with fail
         refine (HAT.out _).mono ?_;rintro e w6 ⟨ve,rfl,hre,hb6⟩;have HB6:=Hh (HBI.out.trans (hb6.mono HBI.out.size));have HEA:=Hh (show EntAt E ve w6 from⟨hre⟩);obtain⟨y1,y2,y3,yb,yr⟩:=HBX.out w6 HB6.out;obtain⟨p0,p1,_,_⟩:=aL y3;have hl3:=aA y3;obtain⟨n0,n1,_,_⟩:=aL y1;have hl1:=aA y1;obtain⟨ae,ce,rfl,_⟩:=id hre.op;have hal2:=hal;clear hb6 hre y1 y2 y3 yb HAT;by_cases hk1:kd=1
         · obtain⟨E',rfl⟩:=Ys.1 (hkd.1 hk1);obtain rfl:E'=E:=HEE.out;subst hk1;have hyr:=yr;obtain⟨pg,op,mn,args,ex,al⟩:=E';have HAL:=Hh hal;have HXL:=Hh hxl;clear hkd hal2 hal hxl HEE yr;have hmn1:cT ⟨pg,op,mn,args,ex,al⟩ (m,lc)=true→mn=m:=fun h=>by
            unfold cT at h;simp only[Qe,Qf] at h;exact h.1
           have HMN:=Hh hmn1;clear hmn1;dsimp only;cases al
           · by_cases hmn:mn=m
             · subst hmn;obtain⟨P,hP⟩:∃ P,cT ⟨pg,op,mn,args,ex,false⟩ (mn,lc)=P:=⟨_,rfl⟩;have HP:=Hh hP;go_wp2_with fail
               obtain⟨W7,hW7⟩:∃ W,w6.alloc (.cells #[.int .i64 pg,.int .u8 op,mn,.slice ae args.length ce,ex,.bool false] 107)=W:=⟨_,rfl⟩;rw[hW7];have hb7:Below w6 w6 W7:=by rw[←hW7];exact br.alloc lr _
               have hx7:W7.heap[w6.heap.size]? = some (.cells #[.int .i64 pg,.int .u8 op,mn,.slice ae args.length ce,ex,.bool false] 107 (0,0)):=by rw[←hW7];exact aF _ _
               have HB7:=Hh (HB6.out.trans (hb7.mono HB6.out.size));have HX7:=Hh hx7;have HE7:=Hh (HEA.out.below hb7);have hsh:=HSH.out ⟨pg,op,mn,args,ex,false⟩ (.slice ae args.length ce) (.slice a' lc.length c') W7 HE7.out (hyr.below hb7) (Qn HAL.out dc);rw[hP] at hsh;clear hW7 hb7 hx7 hP hyr p0 p1 hl3 n0 n1 hl1;refine hsh.mono ?_;rintro e w8 ⟨rfl,hb8⟩;have HB8:=Hh (HB7.out.trans (hb8.mono HB7.out.size));have HX8:=Hh (aB HX7.out hb8 (aA HX7.out));have HE8:=Hh (HE7.out.below hb8);clear hsh hb8 HX7 HE7 HB7 HB6;cases P
               · have hsk:=HSJ.out;rw[uL (by rw[HP.out];rfl)] at hsk;have HSK:=Hh hsk;clear hsk;go_wp2_with fail
                 go_roundw
                 case rel=>exact⟨o+1,code2,om,by go_num,rfl,HB8,HSK⟩
                 case measure=>simp[intOf];omega
               · obtain⟨y1,y2,y3,yb,yr⟩:=HBX.out w8 HB8.out;obtain⟨n0,n1,_,_⟩:=aL y1;have hl1:=aA y1;obtain⟨⟨e0,e1,e2,e3,e4,e5⟩,_⟩:=aN HX8.out;have hl8:=aA HX8.out;obtain⟨B,hB⟩:∃ B,aHn ⟨pg,op,mn,args,ex,false⟩ (mn,lc)=B:=⟨_,rfl⟩;have hft:=HFT.out ⟨pg,op,mn,args,ex,false⟩ (.slice ae args.length ce) w8 yb HE8.out (Qn HAL.out dc) (Qn HXL.out dc);rw[hB] at hft;have HFF:=Hh hft;have HBB:=Hh hB;have HYB:=Hh yb;clear hft hB y1 y2 y3 yb yr;go_wp2_with fail
                 refine HFF.out.mono ?_;rintro e w9 ⟨rfl,hb9⟩;have HB9:=Hh (HB8.out.trans (hb9.mono HB8.out.size));have HX9:=Hh (aB HX8.out hb9 (aA HX8.out));clear hb9 e0 e1 e2 e3 e4 e5 hl8 n0 n1 hl1 HX8;cases B
                 · have hsk:=HSJ.out;rw[Gd (by rw[HP.out];rfl) HBB.out] at hsk;have HSK:=Hh hsk;clear hsk;go_wp2_with fail
                   go_roundw
                   case rel=>exact⟨o+1,2,om,by go_num,rfl,HB9,HSK⟩
                   case measure=>simp[intOf];omega
                 · have hsk:=HSJ.out;rw[Lu (by rw[HP.out];rfl) HBB.out] at hsk;subst hsk;obtain⟨y1,y2,y3,yb,yr⟩:=HBX.out w9 HB9.out;obtain⟨⟨t0,t1,t2,t3,t4,t5⟩,s0,s1,s2,s3,s4,s5⟩:=aN y2;have hl2:=aA y2;obtain⟨⟨e0,e1,e2,e3,e4,e5⟩,_⟩:=aN HX9.out;have hl9:=aA HX9.out;have HYB9:=Hh yb;have HY2:=Hh y2;clear y1 y2 y3 yb yr;go_wp2_with fail
                   generalize hF:World.setCell (World.setCell (World.setCell (World.setCell (World.setCell (World.setCell w9 _ _) _ _) _ _) _ _) _ _) _ _=F;have hk:Kb (w.heap.size+1) w9 F:=by rw[←hF];exact ((((((Kb.refl _ _).setCell _ _).setCell _ _).setCell _ _).setCell _ _).setCell _ _).setCell _ _
                   have hfx:F.heap[w.heap.size+1]? = some (.cells #[.int .i64 pg,.int .u8 op,mn,.slice ae args.length ce,ex,.bool false] 107 (0,0)):=by rw[←hF];exact aG (aG (aG (aG (aG (aG HY2.out)))))
                   have hbf:=bS HYB9.out HYB9.out.size hk (Xn _);clear hF hk t0 t1 t2 t3 t4 t5 s0 s1 s2 s3 s4 s5;obtain⟨⟨r0,r1,r2,r3,r4,r5⟩,_⟩:=aN hfx;have hlf:=aA hfx;exact bodyPost_ret (v:=.tuple #[.agg #[.int .i64 pg,.int .u8 op,mn,.slice ae args.length ce,ex,.bool false],(0:Int)]) (by simp[results,results97,go_sem,r0,r1,r2,r3,r4,r5]) rfl ⟨⟨⟨pg,op,mn,args,ex,false⟩,ae,args.length,ce,rfl⟩,hbf⟩
             · have hsk:=HSJ.out;rw[uL (by
                have:cT ⟨pg,op,mn,args,ex,false⟩ (m,lc)=false:=Bool.eq_false_iff.2 fun h=>hmn (HMN.out h)
                rw[this];rfl)] at hsk
               have HSK:=Hh hsk;have hmb:(mn == m)=false:=by simpa using hmn
               clear hsk hmn;go_wp2_with fail
               go_roundw
               case rel=>exact⟨o+1,code2,om,by go_num,rfl,Hh (HB6.out.alloc HB6.out.size _),HSK⟩
               case measure=>simp[intOf];omega
           · have hsk:=HSJ.out;rw[uL rfl] at hsk;have HSK:=Hh hsk;clear hsk;go_wp2_with fail
             go_roundw
             case rel=>exact⟨o+1,code2,om,by go_num,rfl,Hh (HB6.out.alloc HB6.out.size _),HSK⟩
             case measure=>simp[intOf];omega
         · have hkn:((kd:Int) != 1)=true:=by simp;omega
           have ho0:oe=none:=by
            cases oe with
            | none=>rfl
            | some x=>exact absurd (hkd.2 rfl) hk1
           subst ho0;obtain⟨pg,op,mn,args,ex,al⟩:=E;clear hkd hk1 hal2;dsimp only at hal hxl ⊢;go_wp2_with fail
           go_roundw
           case rel=>exact⟨o+1,code2,om,by go_num,rfl,Hh (HB6.out.alloc HB6.out.size _),HSJ⟩
           case measure=>simp[intOf];omega
       · obtain rfl:o=256:=om
         go_wp2_with fail
         go_roundw
         case rel=>exact⟨p+1,code2,om,by go_num,rfl,HBI,Hh (by rw[←aJp];exact HSI.out)⟩
         case measure=>simp[intOf];omega
    · obtain rfl:p=hi+1:=om
      have hle:¬ ((hi+1:Nat):Int)≤(hi:Int):=om
      have hres:RES=(none,code):=by
       have:=HSC.out
       rw[aJo hi (hi+1) om] at this;exact this.symm
      subst hres;obtain⟨y1,y2,y3,yb,yr⟩:=HBX.out w5 HB5.out;obtain⟨⟨t0,t1,t2,t3,t4,t5⟩,s0,s1,s2,s3,s4,s5⟩:=aN y2;have hl2:=aA y2;have HYB9:=Hh yb;have HY2:=Hh y2;clear y1 y2 y3 yb yr;go_wp2_with fail
      generalize hF:World.setCell (World.setCell (World.setCell (World.setCell (World.setCell (World.setCell w5 _ _) _ _) _ _) _ _) _ _) _ _=F;have hk:Kb (w.heap.size+1) w5 F:=by rw[←hF];exact ((((((Kb.refl _ _).setCell _ _).setCell _ _).setCell _ _).setCell _ _).setCell _ _).setCell _ _
      have hfx:F.heap[w.heap.size+1]? = some (.cells #[(0:Int),.int .u8 0,(),zz,(),.bool false] 107 (0,0)):=by rw[←hF];exact aG (aG (aG (aG (aG (aG HY2.out)))))
      have hbf:=bS HYB9.out HYB9.out.size hk (Xn _);clear hF hk t0 t1 t2 t3 t4 t5 s0 s1 s2 s3 s4 s5;obtain⟨⟨r0,r1,r2,r3,r4,r5⟩,_⟩:=aN hfx;have hlf:=aA hfx;exact bodyPost_ret (v:=.tuple #[.agg #[(0:Int),.int .u8 0,(),zz,(),.bool false],code]) (by simp[results,results97,go_sem,r0,r1,r2,r3,r4,r5]) rfl ⟨⟨ent0,none,0,0,rfl⟩,hbf⟩
 · have e0:((k:Int) != 0)=true:=by simp;omega
   rw[if_neg hz];go_enter func97,ntmps97
   go_wp2_with fail
   obtain⟨W0,hW0⟩:∃ W,(w.alloc (.cells #[m,.slice a l.length c] 53)).alloc (.cells #[(0:Int),.int .u8 0,(),zz,(),.bool false] 107)=W:=⟨_,rfl⟩;have hb0:Below w w W0:=by rw[←hW0];exact bl
   have hx2:W0.heap[w.heap.size+1]? = some (.cells #[(0:Int),.int .u8 0,(),zz,(),.bool false] 107 (0,0)):=by
    exact aNx
   rw[hW0];have HB0:=Hh hb0;have HX2:=Hh hx2;clear hW0 hb0 hx2 hz;refine (HCK.out _ HB0.out).mono ?_;rintro e w1 ⟨rfl,hb1⟩;have HB1:=Hh (HB0.out.trans (hb1.mono HB0.out.size));have HY2:=Hh (aB HX2.out hb1 (aA HX2.out));clear hb1 HX2;obtain⟨⟨t0,t1,t2,t3,t4,t5⟩,s0,s1,s2,s3,s4,s5⟩:=aN HY2.out;have hl2:=aA HY2.out;go_wp2_with fail
   generalize hF:World.setCell (World.setCell (World.setCell (World.setCell (World.setCell (World.setCell w1 _ _) _ _) _ _) _ _) _ _) _ _=F;have hk:Kb (w.heap.size+1) w1 F:=by rw[←hF];exact ((((((Kb.refl _ _).setCell _ _).setCell _ _).setCell _ _).setCell _ _).setCell _ _).setCell _ _
   have hfx:F.heap[w.heap.size+1]? = some (.cells #[(0:Int),.int .u8 0,(),zz,(),.bool false] 107 (0,0)):=by rw[←hF];exact aG (aG (aG (aG (aG (aG HY2.out)))))
   have hbf:=bS HB1.out HB1.out.size hk (Xn _);clear hF hk t0 t1 t2 t3 t4 t5 s0 s1 s2 s3 s4 s5;obtain⟨⟨r0,r1,r2,r3,r4,r5⟩,_⟩:=aN hfx;have hlf:=aA hfx;exact bodyPost_ret (v:=.tuple #[.agg #[(0:Int),.int .u8 0,(),zz,(),.bool false],.int .i64 k]) (by simp[results,results97,go_sem,r0,r1,r2,r3,r4,r5]) rfl ⟨ent0,none,0,0,rfl,hbf⟩
theorem aLh (m:List UInt8) (v:Value) (l:List Op3) (k:Int) (w:World) (hr:Row w v l.length (opc l)) (hs:eR w v l.length (opc l)) (hl:l.length≤900) :
 Calls prog 167 #[eU m v,k] w fun e w'=>e=.returned (.tuple #[.agg #[.int .i64 ((aKG (m,l) k).getD (0,0,0)).1,.int .i64 ((aKG (m,l) k).getD (0,0,0)).2.1,.int .i64 ((aKG (m,l) k).getD (0,0,0)).2.2],.bool (aKG (m,l) k).isSome])∧Below w w w':=by
 have hcl:(bV (m,l)).2.length≤l.length+1:=kM (m,l);have HF:=Hh (fun X (hb:Below w w X)=>aIT m v l X (hr.below hb) (aHz hs hb) hl);have HO:=Hh (fun X (hb:Below w w X)=>aJb m v l X (hr.below hb) (aHz hs hb) om);obtain⟨R,hR⟩:∃ R,aKG (m,l) k=R:=⟨_,rfl⟩;rw[hR];unfold aKG at hR;obtain⟨cd,hcd⟩:∃ c,(aHx (m,l)).2=c:=⟨_,rfl⟩;obtain⟨C,hC⟩:∃ C,(bV (m,l)).2=C:=⟨_,rfl⟩;rw[hcd,hC] at hR;rw[hC] at HO hcl;rw[hcd] at HF;obtain⟨a,c,rfl,_,_⟩:=hr;have HR:=Hh hR;have HCL:=Hh hcl;have HLL:=Hh hl;clear hs hl hcl hR hcd hC;unfold eU at *;go_enter func167,ntmps167
 go_wp2_with fail
 obtain⟨W0,hW0⟩:∃ W,(w.alloc (.cells #[m,.slice a l.length c] 53)).alloc (.cells #[(0:Int),(0:Int),(0:Int)] 144)=W:=⟨_,rfl⟩;have hb0:Below w w W0:=by rw[←hW0];exact bl
 have hx0:W0.heap[w.heap.size]? = some (.cells #[m,.slice a l.length c] 53 (0,0)):=by rw[←hW0];exact aE (aF _ _)
 have hx2:W0.heap[w.heap.size+1]? = some (.cells #[(0:Int),(0:Int),(0:Int)] 144 (0,0)):=by
  rw[←hW0]
  have:=aF (w.alloc (.cells #[m,.slice a l.length c] 53)) (.cells #[(0:Int),(0:Int),(0:Int)] 144)
  rwa [Qa] at this
 rw[hW0];have HB0:=Hh hb0;have HX0:=Hh hx0;have HX2:=Hh hx2;clear hW0 hb0 hx0 hx2;refine (HF.out _ HB0.out).mono ?_;rintro e w1 ⟨⟨pg,op,mn,args,ex,al⟩,ae,ne,ce,rfl,hb1⟩;have HB1:=Hh ((HB0.out.trans (hb1.mono HB0.out.size)).alloc (o:=.cells #[pg,.int .u8 op,mn,.slice ae ne ce,ex,.bool al] 107) (HB0.out.trans (hb1.mono HB0.out.size)).size);have HX1:=Hh (aB HX0.out hb1 (aA HX0.out));have HY1:=Hh (aB HX2.out hb1 (aA HX2.out));obtain⟨p0,p1,_⟩:=aL HX1.out;have hl1:=aA HX1.out;clear hb1 HX0 HX2 HB0;go_wp2_with fail
 refine (HO.out _ HB1.out).mono ?_;rintro e w2 ⟨v',rfl,hrow,hb2⟩;have hal:Below w1 w1 (w1.alloc (.cells #[pg,.int .u8 op,mn,.slice ae ne ce,ex,.bool al] 107)):=br.alloc lr _;have hb12:=hal.trans (hb2.mono hal.size);have HB2:=Hh (HB1.out.trans (hb2.mono HB1.out.size));have HY2:=Hh (aB HY1.out hb12 (aA HY1.out));have HRW:=Hh hrow;obtain⟨a',c',rfl,hc',hh⟩:=hrow.op;have HH:=Hh hh;have hcc:(C.length:Int)≤(c':Int):=om
 have hcb:C.length≤901:=by have:=HCL.out;have:=HLL.out;omega
 obtain⟨⟨t0,t1,t2,s0,s1,s2⟩⟩:=Nonempty.intro (bE HY2.out);have hl2:=aA HY2.out;have hfd:∀ w,(Instr.field 53 (.agg #[m,.slice a' C.length c']) 1).run prog w=.ok (.slice a' C.length c') w:=fun w=>by kernel_rfl
 clear hb2 hb12 hal hrow hh p0 p1 hl1 HX1 HY1;go_wp2_with fail
 clear hfd;go_loopw [9] (fun i wr=>∃ j:Nat,j≤C.length∧i=.int .i64 j∧wr=w2∧Hid ((C.take j).find? (fun o=>decide (o.1=k))=none∨cd≠0)) (fun i _=>C.length - (intOf i).toNat)
 case atStart=>exact⟨0,Qi _,rfl,rfl,Hh (.inl rfl)⟩
 case round =>
  obtain⟨j,hj,rfl,rfl,HN⟩:=hrel;by_cases hlt:j<C.length
  · by_cases hz:cd=0
    · subst hz;obtain⟨⟨x0,x1,x2⟩,hx⟩:∃ x,C[j]? = some x:=⟨_,Qb hlt⟩;obtain⟨g,o,rfl,hg,hcs⟩:=HH.out (by rintro rfl;exact absurd hlt (Qw _))
      obtain⟨k0,k1,k2⟩:=hcs j _ hx;dsimp only at k0 k1 k2;have hi0:(0:Int)≤(j:Int):=om
      have hi1:(j:Int)<(C.length:Int):=om
      have hnone:(C.take j).find? (fun o=>decide (o.1=k))=none:=HN.out.resolve_right sm;by_cases hxk:x0=k
      · subst hxk;have hr0:some (x0,x1,x2)=R:=by
         rw[←HR.out,if_pos rfl,←Zm j C,List.find?_append,hnone,Yj hlt,(Qd.1 hx).2];simp
        clear hnone hx hcs;go_wp2_with fail
        generalize hF:World.setCell (World.setCell (World.setCell wr _ _) _ _) _ _=F;have hk:Kb (w.heap.size+1) wr F:=by rw[←hF];exact (((Kb.refl _ _).setCell _ _).setCell _ _).setCell _ _
        have hfx:F.heap[w.heap.size+1]? = some (.cells #[x0,x1,x2] 144 (0,0)):=by rw[←hF];exact aG (aG (aG HY2.out))
        have hbf:=bS HB2.out HB2.out.size hk (Xn _);clear hF hk t0 t1 t2 s0 s1 s2;obtain⟨r0,r1,r2,_⟩:=bE hfx;have hlf:=aA hfx;exact bodyPost_ret (v:=.tuple #[.agg #[x0,x1,x2],.bool true]) (by simp[results,results167,go_sem,r0,r1,r2]) rfl ⟨by rw[←hr0];rfl,hbf⟩
      · have hxb:(x0 == k)=false:=by simpa using hxk
        have HNN:=Hh (show (C.take (j+1)).find? (fun o=>decide (o.1=k))=none from by
         rw[Qo,hx,List.find?_append,hnone];simp[hxk])
        clear hnone hx hcs hxk;go_wp2_with fail
        go_roundw
        case rel=>exact⟨j+1,om,by go_num,trivial,Hh (.inl HNN.out)⟩
        case measure=>simp[intOf];omega
    · have hzb:((cd:Int) == 0)=false:=by simpa using hz
      have hr0:none=R:=by rw[←HR.out,if_neg hz]
      clear hz;go_wp2_with fail
      generalize hF:World.setCell (World.setCell (World.setCell wr _ _) _ _) _ _=F;have hk:Kb (w.heap.size+1) wr F:=by rw[←hF];exact (((Kb.refl _ _).setCell _ _).setCell _ _).setCell _ _
      have hfx:F.heap[w.heap.size+1]? = some (.cells #[(0:Int),(0:Int),(0:Int)] 144 (0,0)):=by rw[←hF];exact aG (aG (aG HY2.out))
      have hbf:=bS HB2.out HB2.out.size hk (Xn _);clear hF hk t0 t1 t2 s0 s1 s2;obtain⟨r0,r1,r2,_⟩:=bE hfx;have hlf:=aA hfx;exact bodyPost_ret (v:=.tuple #[.agg #[(0:Int),(0:Int),(0:Int)],.bool false]) (by simp[results,results167,go_sem,r0,r1,r2]) rfl ⟨by rw[←hr0];rfl,hbf⟩
  · obtain rfl:j=C.length:=om
    have hr0:none=R:=by
     rw[←HR.out];split
     · rename_i h0
       have:=HN.out.resolve_right (by simpa using h0)
       rw[Qy] at this;exact this.symm
     · rfl
    go_wp2_with fail
    generalize hF:World.setCell (World.setCell (World.setCell wr _ _) _ _) _ _=F;have hk:Kb (w.heap.size+1) wr F:=by rw[←hF];exact (((Kb.refl _ _).setCell _ _).setCell _ _).setCell _ _
    have hfx:F.heap[w.heap.size+1]? = some (.cells #[(0:Int),(0:Int),(0:Int)] 144 (0,0)):=by rw[←hF];exact aG (aG (aG HY2.out))
    have hbf:=bS HB2.out HB2.out.size hk (Xn _);clear hF hk t0 t1 t2 s0 s1 s2;obtain⟨r0,r1,r2,_⟩:=bE hfx;have hlf:=aA hfx;exact bodyPost_ret (v:=.tuple #[.agg #[(0:Int),(0:Int),(0:Int)],.bool false]) (by simp[results,results167,go_sem,r0,r1,r2]) rfl ⟨by rw[←hr0];rfl,hbf⟩
theorem aLH (m:List UInt8) (v:Value) (l:List Op3) (w:World) (hr:Row w v l.length (opc l)) (hs:eR w v l.length (opc l)) (hl:l.length≤900) :
 Calls prog 118 #[eU m v] w fun e w'=>e=.returned (.int .i64 (aKC (m,l)))∧Below w w w':=by
 have HF:=Hh (fun X (hb:Below w w X)=>aIT m v l X (hr.below hb) (aHz hs hb) hl);have hA:=fun X (hb:Below w w X)=>aLh m v l 6 X (hr.below hb) (aHz hs hb) hl;obtain⟨R,hR⟩:∃ R,aKC (m,l)=R:=⟨_,rfl⟩;rw[hR];unfold aKC at hR;dsimp only at hR;obtain⟨cd,hcd⟩:∃ c,(aHx (m,l)).2=c:=⟨_,rfl⟩;rw[hcd] at hR HF;obtain⟨A,hAA⟩:∃ A,aKG (m,l) 6=A:=⟨_,rfl⟩;rw[hAA] at hR hA;obtain⟨X,hX⟩:∃ X:ByteArray,⟨m.toArray⟩=X:=⟨_,rfl⟩;have hm:m=X.data.toList:=by rw[←hX]
 obtain⟨b0,h0⟩:∃ b,decide (m=wJR)=b:=⟨_,rfl⟩;have e0:(X.toList == [74,82])=b0:=by rw[eqC,←h0,hm];rfl
 obtain⟨b1,h1⟩:∃ b,decide (m=aLj)=b:=⟨_,rfl⟩;have e1:(X.toList == [68,74,78,90])=b1:=by rw[eqC,←h1,hm];rfl
 obtain⟨b2,h2⟩:∃ b,decide (m=wJP)=b:=⟨_,rfl⟩;have e2:(X.toList == [74,80])=b2:=by rw[eqC,←h2,hm];rfl
 obtain⟨b3,h3⟩:∃ b,decide (m=aMg)=b:=⟨_,rfl⟩;have e3:(X.toList == [67,65,76,76])=b3:=by rw[eqC,←h3,hm];rfl
 obtain⟨b4,h4⟩:∃ b,decide (m=aNo)=b:=⟨_,rfl⟩;have e4:(X.toList == [82,83,84])=b4:=by rw[eqC,←h4,hm];rfl
 obtain⟨b5,h5⟩:∃ b,decide (m=aOh)=b:=⟨_,rfl⟩;have e5:(X.toList == [82,69,84])=b5:=by rw[eqC,←h5,hm];rfl
 obtain⟨b6,h6⟩:∃ b,decide (m=aMR)=b:=⟨_,rfl⟩;have e6:(X.toList == [82,69,84,73])=b6:=by rw[eqC,←h6,hm];rfl
 obtain⟨b7,h7⟩:∃ b,decide (m=aMQ)=b:=⟨_,rfl⟩;have e7:(X.toList == [82,69,84,78])=b7:=by rw[eqC,←h7,hm];rfl
 obtain⟨b8,h8⟩:∃ b,decide (m=aMS)=b:=⟨_,rfl⟩;have e8:(X.toList == [72,65,76,84])=b8:=by rw[eqC,←h8,hm];rfl
 have hR2:R=if cd≠0 then 0 else if b0=true then 1 else if b1=true then 1 else if b2=true then (if A.isSome=true then 1 else 4) else if b3=true then 2 else if b4=true then 2 else if b5=true then 3 else if b6=true then 3 else if b7=true then 3 else if b8=true then 4 else 0:=by
  rw[←hR];simp only[←h0,←h1,←h2,←h3,←h4,←h5,←h6,←h7,←h8,Qf]
 have HR2:=Hh hR2;have HA:=Hh hA;obtain⟨a,c,rfl,_,_⟩:=hr;unfold eU at *;rw[hX] at HF HA ⊢;clear hs hl hR hcd hAA hX hm hA hR2 h0 h1 h2 h3 h4 h5 h6 h7 h8;go_enter func118,ntmps118
 go_wp2_with fail
 obtain⟨W0,hW0⟩:∃ W,w.alloc (.cells #[.string X,.slice a l.length c] 53)=W:=⟨_,rfl⟩;have hb0:Below w w W0:=by rw[←hW0];exact bl
 have hx0:W0.heap[w.heap.size]? = some (.cells #[.string X,.slice a l.length c] 53 (0,0)):=by rw[←hW0];exact aF _ _
 rw[hW0];have HB0:=Hh hb0;have HX0:=Hh hx0;clear hW0 hb0 hx0;refine (HF.out _ HB0.out).mono ?_;rintro e w1 ⟨⟨pg,op,mn,args,ex,al⟩,ae,ne,ce,rfl,hb1⟩;have HB1:=Hh ((HB0.out.trans (hb1.mono HB0.out.size)).alloc (o:=.cells #[pg,.int .u8 op,mn,.slice ae ne ce,ex,.bool al] 107) (HB0.out.trans (hb1.mono HB0.out.size)).size);have HX1:=Hh (aB HX0.out hb1 (aA HX0.out));obtain⟨p0,p1,_⟩:=aL HX1.out;have hl1:=aA HX1.out;clear hb1 HX0 HB0;by_cases hz:cd=0
 · have hzb:((cd:Int) != 0)=false:=by simp[hz]
   have HR3:=Hh (HR2.out.trans (if_neg (by simpa using hz)));clear hz HR2;cases b0
   case true =>
    have hr:R=1:=HR3.out.trans sm;subst hr;clear HR3 e1 e2 e3 e4 e5 e6 e7 e8;go_wp2_with fail
    go_ret;exact⟨rfl,HB1.out⟩
   case false =>
    cases b1
    case true =>
     have hr:R=1:=HR3.out.trans sm;subst hr;clear HR3 e2 e3 e4 e5 e6 e7 e8;go_wp2_with fail
     go_ret;exact⟨rfl,HB1.out⟩
    case false =>
     cases b2
     case true =>
      have hr:R=if A.isSome=true then 1 else 4:=HR3.out.trans sm
      have HR4:=Hh hr;clear hr HR3 e3 e4 e5 e6 e7 e8;go_wp2_with fail
      refine (HA.out _ HB1.out).mono ?_;rintro e w2 ⟨rfl,hb2⟩;have HB2:=Hh ((HB1.out.trans (hb2.mono HB1.out.size)).alloc (o:=.cells #[.int .i64 ((A.getD (0,0,0)).1),.int .i64 ((A.getD (0,0,0)).2.1),.int .i64 ((A.getD (0,0,0)).2.2)] 144) (HB1.out.trans (hb2.mono HB1.out.size)).size);clear hb2 p0 p1 hl1;cases A
      case none =>
       obtain rfl:R=4:=HR4.out;go_wp2_with fail
       go_ret;exact⟨rfl,HB2.out⟩
      case some x =>
       obtain rfl:R=1:=HR4.out;go_wp2_with fail
       go_ret;exact⟨rfl,HB2.out⟩
     case false =>
      cases b3
      case true =>
       have hr:R=2:=HR3.out.trans sm;subst hr;clear HR3 e4 e5 e6 e7 e8;go_wp2_with fail
       go_ret;exact⟨rfl,HB1.out⟩
      case false =>
       cases b4
       case true =>
        have hr:R=2:=HR3.out.trans sm;subst hr;clear HR3 e5 e6 e7 e8;go_wp2_with fail
        go_ret;exact⟨rfl,HB1.out⟩
       case false =>
        cases b5
        case true =>
         have hr:R=3:=HR3.out.trans sm;subst hr;clear HR3 e6 e7 e8;go_wp2_with fail
         go_ret;exact⟨rfl,HB1.out⟩
        case false =>
         cases b6
         case true =>
          have hr:R=3:=HR3.out.trans sm;subst hr;clear HR3 e7 e8;go_wp2_with fail
          go_ret;exact⟨rfl,HB1.out⟩
         case false =>
          cases b7
          case true =>
           have hr:R=3:=HR3.out.trans sm;subst hr;clear HR3 e8;go_wp2_with fail
           go_ret;exact⟨rfl,HB1.out⟩
          case false =>
           cases b8
           case true =>
            have hr:R=4:=HR3.out.trans sm;subst hr;clear HR3;go_wp2_with fail
            go_ret;exact⟨rfl,HB1.out⟩
           case false =>
            have hr:R=0:=HR3.out.trans sm;subst hr;clear HR3;go_wp2_with fail
            go_ret;exact⟨rfl,HB1.out⟩
 · have hzb:((cd:Int) != 0)=true:=by simpa using hz
   have hr:R=0:=HR2.out.trans (if_pos hz);subst hr;clear hz HR2;go_wp2_with fail
   go_ret;exact⟨rfl,HB1.out⟩
theorem aME (m:List UInt8) (v:Value) (l:List Op3) (w:World) (hr:Row w v l.length (opc l)) (hs:eR w v l.length (opc l)) (hl:l.length≤900) :
 Calls prog 120 #[eU m v] w fun e w'=>e=.returned (.bool (aLw (m,l)))∧Below w w w':=by
 have HF:=Hh (fun X (hb:Below w w X)=>aIT m v l X (hr.below hb) (aHz hs hb) hl);have hA:=fun X (hb:Below w w X)=>aLh m v l 8 X (hr.below hb) (aHz hs hb) hl;obtain⟨R,hR⟩:∃ R,aLw (m,l)=R:=⟨_,rfl⟩;rw[hR];unfold aLw at hR;dsimp only at hR;obtain⟨cd,hcd⟩:∃ c,(aHx (m,l)).2=c:=⟨_,rfl⟩;rw[hcd] at hR HF;obtain⟨A,hAA⟩:∃ A,aKG (m,l) 8=A:=⟨_,rfl⟩;rw[hAA] at hR hA;obtain⟨X,hX⟩:∃ X:ByteArray,⟨m.toArray⟩=X:=⟨_,rfl⟩;have hm:m=X.data.toList:=by rw[←hX]
 obtain⟨b1,h1⟩:∃ b,decide (m=aLj)=b:=⟨_,rfl⟩;have e1:(X.toList == [68,74,78,90])=b1:=by rw[eqC,←h1,hm];rfl
 rw[h1] at hR;have HR:=Hh hR;have HA:=Hh hA;obtain⟨a,c,rfl,_,_⟩:=hr;unfold eU at *;rw[hX] at HF HA ⊢;clear hs hl hR hcd hAA hX hm hA h1;go_enter func120,ntmps120
 go_wp2_with fail
 obtain⟨W0,hW0⟩:∃ W,w.alloc (.cells #[.string X,.slice a l.length c] 53)=W:=⟨_,rfl⟩;have hb0:Below w w W0:=by rw[←hW0];exact bl
 have hx0:W0.heap[w.heap.size]? = some (.cells #[.string X,.slice a l.length c] 53 (0,0)):=by rw[←hW0];exact aF _ _
 rw[hW0];have HB0:=Hh hb0;have HX0:=Hh hx0;clear hW0 hb0 hx0;refine (HF.out _ HB0.out).mono ?_;rintro e w1 ⟨⟨pg,op,mn,args,ex,al⟩,ae,ne,ce,rfl,hb1⟩;have HB1:=Hh ((HB0.out.trans (hb1.mono HB0.out.size)).alloc (o:=.cells #[pg,.int .u8 op,mn,.slice ae ne ce,ex,.bool al] 107) (HB0.out.trans (hb1.mono HB0.out.size)).size);have HX1:=Hh (aB HX0.out hb1 (aA HX0.out));obtain⟨p0,p1,_⟩:=aL HX1.out;have hl1:=aA HX1.out;clear hb1 HX0 HB0;go_wp2_with fail
 refine (HA.out _ HB1.out).mono ?_;rintro e w2 ⟨rfl,hb2⟩;have hal:Below w1 w1 (w1.alloc (.cells #[pg,.int .u8 op,mn,.slice ae ne ce,ex,.bool al] 107)):=br.alloc lr _;have hb12:=hal.trans (hb2.mono hal.size);have HB2:=Hh ((HB1.out.trans (hb2.mono HB1.out.size)).alloc (o:=.cells #[.int .i64 ((A.getD (0,0,0)).1),.int .i64 ((A.getD (0,0,0)).2.1),.int .i64 ((A.getD (0,0,0)).2.2)] 144) (HB1.out.trans (hb2.mono HB1.out.size)).size);have HX2:=Hh (aB HX1.out hb12 (aA HX1.out));clear hb2 hb12 hal p0 p1 hl1 HX1;obtain⟨p0,p1,_⟩:=aL HX2.out;have hl2:=aA HX2.out;by_cases hz:cd=0
 · have hzb:((cd:Int) == 0)=true:=by simp[hz]
   have HR3:=Hh (show ((A.isSome || b1)=R) from by rw[←HR.out,Qh hz,Yp])
   clear hz HR;cases A
   case none =>
    obtain rfl:b1=R:=HR3.out;go_wp2_with fail
    go_ret;exact⟨rfl,HB2.out⟩
   case some x =>
    obtain rfl:true=R:=HR3.out;go_wp2_with fail
    go_ret;exact⟨rfl,HB2.out⟩
 · have hzb:((cd:Int) == 0)=false:=by simpa using hz
   obtain rfl:false=R:=by rw[←HR.out,Qg hz,Zp]
   clear hz HR;go_wp2_with fail
   go_ret;exact⟨rfl,HB2.out⟩
theorem aMA (ad:Int) (m:List UInt8) (v:Value) (l:List Op3) (w:World) (hr:Row w v l.length (opc l)) (hs:eR w v l.length (opc l)) (hl:l.length≤900) :
 Calls prog 119 #[ad,eU m v] w fun e w'=>e=.returned (.int .i64 (aLb ad (m,l)))∧Below w w w':=by
 have HK:=Hh (fun X (hb:Below w w X)=>aLH m v l X (hr.below hb) (aHz hs hb) hl);have HA:=Hh (fun X (hb:Below w w X)=>aLh m v l 10 X (hr.below hb) (aHz hs hb) hl);have HB:=Hh (fun X (hb:Below w w X)=>aLh m v l 6 X (hr.below hb) (aHz hs hb) hl);have hrel:=fun o=>@aMy (m,l) o;obtain⟨R,hR⟩:∃ R,aLb ad (m,l)=R:=⟨_,rfl⟩;rw[hR];unfold aLb at hR;obtain⟨K,hK⟩:∃ K,aKC (m,l)=K:=⟨_,rfl⟩;obtain⟨A,hA⟩:∃ A,aKG (m,l) 10=A:=⟨_,rfl⟩;obtain⟨B,hB⟩:∃ B,aKG (m,l) 6=B:=⟨_,rfl⟩;rw[hK,hA,hB] at hR;rw[hK] at HK;rw[hA] at HA hrel;rw[hB] at HB;have HR:=Hh hR;have HRL:=Hh hrel;obtain⟨a,c,rfl,_,_⟩:=hr;unfold eU at *;clear hs hl hR hK hA hB hrel;go_enter func119,ntmps119
 go_wp2_with fail
 obtain⟨W0,hW0⟩:∃ W,w.alloc (.cells #[m,.slice a l.length c] 53)=W:=⟨_,rfl⟩;have hb0:Below w w W0:=by rw[←hW0];exact bl
 have hx0:W0.heap[w.heap.size]? = some (.cells #[m,.slice a l.length c] 53 (0,0)):=by rw[←hW0];exact aF _ _
 rw[hW0];have HB0:=Hh hb0;have HX0:=Hh hx0;clear hW0 hb0 hx0;refine (HK.out _ HB0.out).mono ?_;rintro e w1 ⟨rfl,hb1⟩;have HB1:=Hh (HB0.out.trans (hb1.mono HB0.out.size));have HX1:=Hh (aB HX0.out hb1 (aA HX0.out));obtain⟨p0,p1,_⟩:=aL HX1.out;have hl1:=aA HX1.out;clear hb1 HX0 HB0;by_cases h1:ad<0
 · obtain rfl:R=-1:=by rw[←HR.out,if_pos (.inl h1)]
   clear HR;go_wp2_with fail
   go_ret;exact⟨rfl,HB1.out⟩
 · by_cases h2:65535<ad
   · obtain rfl:R=-1:=by rw[←HR.out,if_pos (.inr (.inl h2))]
     clear HR;go_wp2_with fail
     go_ret;exact⟨rfl,HB1.out⟩
   · by_cases h3:K=1∨K=2
     · have hr3:(A.map fun o=>(ad+2+o.2.2+65536)%65536).getD (B.getD (0,0,0)).2.2=R:=by rw[←HR.out,if_neg om]
       have HR3:=Hh hr3;clear HR hr3;rcases h3 with rfl|rfl;all_goals
        go_wp2_with fail
        refine (HA.out _ HB1.out).mono ?_;rintro e w2 ⟨rfl,hb2⟩;have HX2:=Hh (aB HX1.out hb2 (aA HX1.out));have HB2:=Hh ((HB1.out.trans (hb2.mono HB1.out.size)).alloc (o:=.cells #[.int .i64 ((A.getD (0,0,0)).1),.int .i64 ((A.getD (0,0,0)).2.1),.int .i64 ((A.getD (0,0,0)).2.2)] 144) (HB1.out.trans (hb2.mono HB1.out.size)).size);clear hb2 p0 p1 hl1;cases A
        case some o =>
         obtain⟨o0,o1,o2⟩:=o;obtain⟨q1,q2⟩:=HRL.out _ rfl;dsimp only at q1 q2;obtain rfl:(ad+2+o2+65536)%65536=R:=HR3.out;have g1:(0:Int)≤ad:=om
         have g2:ad≤65535:=om
         clear HR3 h1 h2;go_wp2_with fail
         go_ret;exact⟨rfl,HB2.out⟩
        case none =>
         obtain rfl:(B.getD (0,0,0)).2.2=R:=HR3.out;obtain⟨p0,p1,_⟩:=aL HX2.out;have hl2:=aA HX2.out;have HB2z:=Hh (show Below w w (w2.alloc (.cells #[(0:Int),(0:Int),(0:Int)] 144)) from HB2.out)
         clear HR3;go_wp2_with fail
         refine (HB.out _ HB2z.out).mono ?_;rintro e w3 ⟨rfl,hb3⟩;have HB3:=Hh ((HB2z.out.trans (hb3.mono HB2z.out.size)).alloc (o:=.cells #[.int .i64 ((B.getD (0,0,0)).1),.int .i64 ((B.getD (0,0,0)).2.1),.int .i64 ((B.getD (0,0,0)).2.2)] 144) (HB2z.out.trans (hb3.mono HB2z.out.size)).size);clear hb3 p0 p1 hl2;go_wp2_with fail
         go_ret;exact⟨rfl,HB3.out⟩
     · obtain rfl:R=-1:=by rw[←HR.out,if_pos (.inr (.inr om))]
       have k1:(K != 1)=true:=by simp;omega
       have k2:(K != 2)=true:=by simp;omega
       clear HR h3;go_wp2_with fail
       go_ret;exact⟨rfl,HB1.out⟩
end Go.Proofs.YtoigglljnklhlaaGreatDoor
