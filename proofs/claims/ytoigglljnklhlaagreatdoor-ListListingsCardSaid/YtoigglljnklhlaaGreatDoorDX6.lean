/- Joined. -/
import Derived.Test.YtoigglljnklhlaaGreatDoorD39
import Derived.Test.YtoigglljnklhlaaGreatDoorD42
import Derived.Test.YtoigglljnklhlaaGreatDoorD45
import Derived.Test.YtoigglljnklhlaaGreatDoorD46
set_option maxHeartbeats 8000000
set_option maxRecDepth 100000
namespace Go.Proofs.YtoigglljnklhlaaGreatDoor
open Go.RowKit Go.Sort
open Go.Proofs.Tryz
theorem aHz {w w':World} {v:Value} {n:Nat} {xs:List Value} (hs:eR w v n xs) (hb:Below w.heap.size w w'):eR w' v n xs :=
 hs.imp (fun h=>h) (fun⟨ad,c',h1,h2⟩=>⟨ad,c',h1,fun j u hu=>(hb.cell (block_lt_of_cell (h2 j u hu))).trans (h2 j u hu)⟩)
theorem rP {p:Prop} (h:p:=by
 rw[←hW0]
 have:=aF (w.alloc (.cells #[.string ⟨m.toArray⟩,.slice a l.length c] 53)) (.cells #[.int .i64 0,.int .u8 0,.string ⟨#[]⟩,.slice none 0 0,.string ⟨#[]⟩,.bool false] 107)
 rwa [World.size_alloc] at this):p:=h
theorem aIT (m:List UInt8) (v:Value) (l:List Op3) (w:World) (hr:Row w v l.length (opc l)) (hs:eR w v l.length (opc l)) (hl:l.length≤900) :
 Calls prog 97 #[eU m v] w fun e w'=>∃ E a n c,e=.returned (.tuple #[cP E (.slice a n c),.int .i64 (aHx (m,l)).2])∧Below w.heap.size w w':=by
 have hcl:(bV (m,l)).2.length≤l.length+1:=kM (m,l);rw[aIS];obtain⟨lc,hlc⟩:∃ lc,(bV (m,l)).2=lc:=⟨_,rfl⟩;have hcc:bV (m,l)=(m,lc):=by rw[←hlc];rfl
 have HCK:=Hh (fun W (hb:Below w.heap.size w W)=>aIm m v l W (hr.below hb));have HOF:=Hh (fun W (hb:Below w.heap.size w W)=>aJb m v l W (hr.below hb) (aHz hs hb) om);rw[hcc] at hcl HOF ⊢;dsimp only at hcl HOF ⊢;have HFI:=Hh (fun u W (h:Row W u lc.length (opc lc))=>aHD m u lc W h om);have HLA:=Hh (fun u W (h:Row W u lc.length (opc lc))=>aIQ m u lc W h om);have HSH:=Hh (fun E q u W (hE:EntAt E q W) (h:Row W u lc.length (opc lc)) (ha:E.args.length≤1000)=>aHs E q m u lc W hE h om ha);have HFT:=Hh (fun E q W (hb:Below w.heap.size w W) (hE:EntAt E q W) (ha:E.args.length≤1000) (hx:E.extra.length≤1000)=>aJv E q m v l lc W hE om ha hx (fun W2 hb2=>(HOF.out W2 (hb.trans (hb2.mono hb.size))).mono (by
  rintro e w' ⟨v',he,h1,h2⟩;exact⟨v',he,h1,h2⟩)))
 obtain⟨k,hk⟩:∃ k,iR (m,l)=k:=⟨_,rfl⟩;rw[hk] at HCK ⊢;obtain⟨lo,hlo⟩:∃ lo,(if lc.any Xw=true then 3 else 0)=lo:=⟨_,rfl⟩;obtain⟨hi,hhi⟩:∃ hi,(if lc.any Xw=true then 6 else 2)=hi:=⟨_,rfl⟩;have hlh:lo≤hi+1∧hi<7:=by rw[←hlo,←hhi];cases lc.any Xw<;>decide
 have hloI:(if lc.any Xw=true then (3:Int) else 0)=(lo:Int):=by rw[←hlo];cases lc.any Xw<;>rfl
 have hhiI:(if lc.any Xw=true then (6:Int) else 2)=(hi:Int):=by rw[←hhi];cases lc.any Xw<;>rfl
 rw[hloI] at HFI;rw[hhiI] at HLA;rw[hlo,hhi];obtain⟨RES,hRES⟩:∃ R,kQ (fun e=>aHn e (m,lc)) (m,lc) (aHi hi lo) 11=R:=⟨_,rfl⟩;rw[hRES];obtain⟨a,c,rfl,_,_⟩:=hr;have HRES:=Hh hRES;have HLH:=Hh hlh;clear hs hl hcl hlc hcc hlo hhi hloI hhiI hk hRES hlh;unfold eU at *;by_cases hz:k=0
 · subst hz;rw[if_pos rfl];go_enter func97,ntmps97
   go_wp2_with fail
   obtain⟨W0,hW0⟩:∃ W,(w.alloc (.cells #[.string ⟨m.toArray⟩,.slice a l.length c] 53)).alloc (.cells #[.int .i64 0,.int .u8 0,.string ⟨#[]⟩,.slice none 0 0,.string ⟨#[]⟩,.bool false] 107)=W:=⟨_,rfl⟩;have hb0:Below w.heap.size w W0:=by rw[←hW0];exact bl
   have hx1:W0.heap[w.heap.size]? = some (.cells #[.string ⟨m.toArray⟩,.slice a l.length c] 53 (0,0)):=by rw[←hW0];exact aE (aF _ _)
   have hx2:W0.heap[w.heap.size+1]? = some (.cells #[.int .i64 0,.int .u8 0,.string ⟨#[]⟩,.slice none 0 0,.string ⟨#[]⟩,.bool false] 107 (0,0)):=by
    exact rP
   rw[hW0];have HB0:=Hh hb0;have HX1:=Hh hx1;have HX2:=Hh hx2;clear hW0 hb0 hx1 hx2;(with_reducible refine (HCK.out _ HB0.out).mono ?_);rintro e w1 ⟨rfl,hb1⟩;have HB1:=Hh (HB0.out.trans (hb1.mono HB0.out.size));have HY1:=Hh (aB HX1.out hb1 (aA HX1.out));have HY2:=Hh (aB HX2.out hb1 (aA HX2.out));clear hb1 HX1 HX2;obtain⟨p0,p1,_,_⟩:=aL HY1.out;have hl1:=aA HY1.out;go_wp2_with fail
   (with_reducible refine (HOF.out _ HB1.out).mono ?_);rintro e w2 ⟨v',rfl,hrow,hb2⟩;obtain⟨a',c',rfl,_,_⟩:=id hrow;have HB2:=Hh (HB1.out.trans (hb2.mono HB1.out.size));have HZ1:=Hh (aB HY1.out hb2 (aA HY1.out));have HZ2:=Hh (aB HY2.out hb2 (aA HY2.out));have HRW:=Hh hrow;clear hb2 HY1 HY2 hrow p0 p1 hl1;go_wp2_with fail
   obtain⟨W3,hW3⟩:∃ W,w2.alloc (.cells #[.string ⟨m.toArray⟩,.slice a' lc.length c'] 53)=W:=⟨_,rfl⟩;have hb3:Below w2.heap.size w2 W3:=by rw[←hW3];exact br.alloc lr _
   have hx3:W3.heap[w2.heap.size]? = some (.cells #[.string ⟨m.toArray⟩,.slice a' lc.length c'] 53 (0,0)):=by rw[←hW3];exact aF _ _
   rw[hW3];have HB3:=Hh (HB2.out.trans (hb3.mono HB2.out.size));have HV1:=Hh (aB HZ1.out hb3 (aA HZ1.out));have HV2:=Hh (aB HZ2.out hb3 (aA HZ2.out));have HRW3:=Hh (HRW.out.below hb3);generalize w2.heap.size=kc at hx3 ⊢;have HV3:=Hh hx3;clear hW3 hb3 hx3 HZ1 HZ2 HRW HB2;(with_reducible refine (HFI.out _ _ HRW3.out).mono ?_);rintro e w4 ⟨rfl,hb4⟩;have HBX:=Hh (fun W (hb:Below w4.heap.size w4 W) =>
    have hbw:=hb4.trans (hb.mono hb4.size)
    And.intro (aB HV1.out hbw (aA HV1.out)) (And.intro (aB HV2.out hbw (aA HV2.out)) (And.intro (aB HV3.out hbw (aA HV3.out)) (And.intro (HB3.out.trans (hbw.mono HB3.out.size)) (HRW3.out.below hbw)))))
   clear hb4 HV1 HV2 HV3 HB3 HRW3 HFI;go_wp2_with fail
   go_loopw [6,7] (fun cd pg wr=>∃ (p:Nat) (code:Int),p≤hi+1∧pg=.int .i64 p∧cd=.int .i64 code∧Hid (Below w4.heap.size w4 wr)∧Hid (kQ (fun e=>aHn e (m,lc)) (m,lc) (aHi hi p) code=RES)) (fun _ pg _=>hi+1 - (intOf pg).toNat)
   case atStart=>exact⟨lo,11,HLH.out.1,rfl,rfl,Hh br,HRES⟩
   case round =>
    obtain⟨p,code,hp1,rfl,rfl,HB,HSC⟩:=hrel;obtain⟨y1,y2,y3,yb,yr⟩:=HBX.out wr HB.out;obtain⟨p0,p1,_,_⟩:=aL y3;have hl3:=aA y3;have hhi:=HLH.out.2;have HYR:=Hh yr;clear y1 y2 y3 yb yr;go_wp2_with fail
    (with_reducible refine (HLA.out _ _ HYR.out).mono ?_);rintro e w5 ⟨rfl,hb5⟩;have HB5:=Hh (HB.out.trans (hb5.mono HB.out.size));clear hb5 p0 p1 hl3 HYR;by_cases hlt:p≤hi
    · have hle:(p:Int)≤(hi:Int):=om
      go_wp2_with fail
      go_loopw [6,8] (fun cd op W=>∃ (o:Nat) (code:Int),o≤256∧op=.int .i64 o∧cd=.int .i64 code∧Hid (Below w4.heap.size w4 W)∧Hid (kQ (fun e=>aHn e (m,lc)) (m,lc) (aIZ hi p o) code=RES)) (fun _ op _=>256 - (intOf op).toNat)
      case atStart=>exact⟨0,code,om,rfl,rfl,HB5,Hh (by rw[←aIH hi p hlt];exact HSC.out)⟩
      case round =>
       obtain⟨o,code2,ho1,rfl,rfl,HBI,HSI⟩:=hrel;by_cases ho:o<256
       · --[
         have hp7:p<7:=om
         obtain⟨hkd,hal,hxl⟩:=aKy hp7 ho;have hat:=Uk p o hp7 ho;rw[aKw hp7 ho] at hat;have hnx:=aKq hi p o ho;obtain⟨⟨oe,kd⟩,hoe⟩:∃ y,atP p o=y:=⟨_,rfl⟩;rw[hoe] at hkd hal hxl hat hnx;dsimp only at hkd hal hxl hnx;have HAT:=Hh hat;have hsi:=HSI.out;rw[hnx] at hsi;have HSJ:=Hh hsi;unfold pY at HAT;dsimp only at HAT;obtain⟨E,hE⟩:∃ E,oe.getD ent0=E:=⟨_,rfl⟩;rw[hE] at hal hxl HAT;have HEE:=Hh hE;clear hat hoe hnx hsi hE HSI;have hob:(o:Int)<256:=om
         go_wp2_with fail
         (with_reducible refine (HAT.out _).mono ?_);rintro e w6 ⟨ve,rfl,hre,hb6⟩;have HB6:=Hh (HBI.out.trans (hb6.mono HBI.out.size));have HEA:=Hh (show EntAt E ve w6 from⟨hre⟩);obtain⟨y1,y2,y3,yb,yr⟩:=HBX.out w6 HB6.out;obtain⟨p0,p1,_,_⟩:=aL y3;have hl3:=aA y3;obtain⟨n0,n1,_,_⟩:=aL y1;have hl1:=aA y1;obtain⟨ae,ce,rfl,_⟩:=id hre.op;have hal2:=hal;clear hb6 hre y1 y2 y3 yb HAT;by_cases hk1:kd=1
         · obtain⟨E',rfl⟩:=Option.isSome_iff_exists.1 (hkd.1 hk1);obtain rfl:E'=E:=HEE.out;subst hk1;have hyr:=yr;obtain⟨pg,op,mn,args,ex,al⟩:=E';have HAL:=Hh hal;have HXL:=Hh hxl;clear hkd hal2 hal hxl HEE yr;have hmn1:cT ⟨pg,op,mn,args,ex,al⟩ (m,lc)=true→mn=m:=fun h=>by
            unfold cT at h;simp only[Bool.and_eq_true,decide_eq_true_eq] at h;exact h.1
           have HMN:=Hh hmn1;clear hmn1;dsimp only;cases al
           · by_cases hmn:mn=m
             · subst hmn;obtain⟨P,hP⟩:∃ P,cT ⟨pg,op,mn,args,ex,false⟩ (mn,lc)=P:=⟨_,rfl⟩;have HP:=Hh hP;go_wp2_with fail
               obtain⟨W7,hW7⟩:∃ W,w6.alloc (.cells #[.int .i64 pg,.int .u8 op,.string ⟨mn.toArray⟩,.slice ae args.length ce,.string ⟨ex.toArray⟩,.bool false] 107)=W:=⟨_,rfl⟩;rw[hW7];have hb7:Below w6.heap.size w6 W7:=by rw[←hW7];exact br.alloc lr _
               have hx7:W7.heap[w6.heap.size]? = some (.cells #[.int .i64 pg,.int .u8 op,.string ⟨mn.toArray⟩,.slice ae args.length ce,.string ⟨ex.toArray⟩,.bool false] 107 (0,0)):=by rw[←hW7];exact aF _ _
               have HB7:=Hh (HB6.out.trans (hb7.mono HB6.out.size));have HX7:=Hh hx7;have HE7:=Hh (HEA.out.below hb7);have hsh:=HSH.out ⟨pg,op,mn,args,ex,false⟩ (.slice ae args.length ce) (.slice a' lc.length c') W7 HE7.out (hyr.below hb7) (Nat.le_trans HAL.out dc);rw[hP] at hsh;clear hW7 hb7 hx7 hP hyr p0 p1 hl3 n0 n1 hl1;(with_reducible refine hsh.mono ?_);rintro e w8 ⟨rfl,hb8⟩;have HB8:=Hh (HB7.out.trans (hb8.mono HB7.out.size));have HX8:=Hh (aB HX7.out hb8 (aA HX7.out));have HE8:=Hh (HE7.out.below hb8);clear hsh hb8 HX7 HE7 HB7 HB6;cases P
               · have hsk:=HSJ.out;rw[uL (by rw[HP.out];rfl)] at hsk;have HSK:=Hh hsk;clear hsk;go_wp2_with fail
                 go_roundw
                 case rel=>exact⟨o+1,code2,om,by go_num,rfl,HB8,HSK⟩
                 case measure=>simp[intOf];omega
               · obtain⟨y1,y2,y3,yb,yr⟩:=HBX.out w8 HB8.out;obtain⟨n0,n1,_,_⟩:=aL y1;have hl1:=aA y1;obtain⟨⟨e0,e1,e2,e3,e4,e5⟩,_⟩:=aN HX8.out;have hl8:=aA HX8.out;obtain⟨B,hB⟩:∃ B,aHn ⟨pg,op,mn,args,ex,false⟩ (mn,lc)=B:=⟨_,rfl⟩;have hft:=HFT.out ⟨pg,op,mn,args,ex,false⟩ (.slice ae args.length ce) w8 yb HE8.out (Nat.le_trans HAL.out dc) (Nat.le_trans HXL.out dc);rw[hB] at hft;have HFF:=Hh hft;have HBB:=Hh hB;have HYB:=Hh yb;clear hft hB y1 y2 y3 yb yr;go_wp2_with fail
                 (with_reducible refine HFF.out.mono ?_);rintro e w9 ⟨rfl,hb9⟩;have HB9:=Hh (HB8.out.trans (hb9.mono HB8.out.size));have HX9:=Hh (aB HX8.out hb9 (aA HX8.out));clear hb9 e0 e1 e2 e3 e4 e5 hl8 n0 n1 hl1 HX8;cases B
                 · have hsk:=HSJ.out;rw[Gd (by rw[HP.out];rfl) HBB.out] at hsk;have HSK:=Hh hsk;clear hsk;go_wp2_with fail
                   go_roundw
                   case rel=>exact⟨o+1,2,om,by go_num,rfl,HB9,HSK⟩
                   case measure=>simp[intOf];omega
                 · have hsk:=HSJ.out;rw[Lu (by rw[HP.out];rfl) HBB.out] at hsk;subst hsk;obtain⟨y1,y2,y3,yb,yr⟩:=HBX.out w9 HB9.out;obtain⟨⟨t0,t1,t2,t3,t4,t5⟩,s0,s1,s2,s3,s4,s5⟩:=aN y2;have hl2:=aA y2;obtain⟨⟨e0,e1,e2,e3,e4,e5⟩,_⟩:=aN HX9.out;have hl9:=aA HX9.out;have HYB9:=Hh yb;have HY2:=Hh y2;clear y1 y2 y3 yb yr;go_wp2_with fail
                   generalize hF:World.setCell (World.setCell (World.setCell (World.setCell (World.setCell (World.setCell w9 _ _) _ _) _ _) _ _) _ _) _ _=F;have hk:Kb (w.heap.size+1) w9 F:=by rw[←hF];exact ((((((Kb.refl _ _).setCell _ _).setCell _ _).setCell _ _).setCell _ _).setCell _ _).setCell _ _
                   have hfx:F.heap[w.heap.size+1]? = some (.cells #[.int .i64 pg,.int .u8 op,.string ⟨mn.toArray⟩,.slice ae args.length ce,.string ⟨ex.toArray⟩,.bool false] 107 (0,0)):=by rw[←hF];exact aG (aG (aG (aG (aG (aG HY2.out)))))
                   have hbf:=bS HYB9.out HYB9.out.size hk (Nat.le_succ _);clear hF hk t0 t1 t2 t3 t4 t5 s0 s1 s2 s3 s4 s5;obtain⟨⟨r0,r1,r2,r3,r4,r5⟩,_⟩:=aN hfx;have hlf:=aA hfx;exact bodyPost_ret (v:=.tuple #[.agg #[.int .i64 pg,.int .u8 op,.string ⟨mn.toArray⟩,.slice ae args.length ce,.string ⟨ex.toArray⟩,.bool false],.int .i64 0]) (by simp[results,results97,go_sem,r0,r1,r2,r3,r4,r5]) rfl ⟨⟨⟨pg,op,mn,args,ex,false⟩,ae,args.length,ce,rfl⟩,hbf⟩
             · have hsk:=HSJ.out;rw[uL (by
                have:cT ⟨pg,op,mn,args,ex,false⟩ (m,lc)=false:=Bool.eq_false_iff.2 fun h=>hmn (HMN.out h)
                rw[this];rfl)] at hsk
               have HSK:=Hh hsk;have hmb:(mn == m)=false:=by simpa using hmn
               clear hsk hmn;go_wp2_with fail
               go_roundw
               case rel=>exact⟨o+1,code2,om,by go_num,rfl,Hh (HB6.out.alloc HB6.out.size _),HSK⟩
               case measure=>simp[intOf];omega
           · have hsk:=HSJ.out;rw[uL rfl] at hsk;have HSK:=Hh hsk;clear hsk;go_wp2_with fail
             go_roundw
             case rel=>exact⟨o+1,code2,om,by go_num,rfl,Hh (HB6.out.alloc HB6.out.size _),HSK⟩
             case measure=>simp[intOf];omega
         · have hkn:((kd:Int) != 1)=true:=by simp;omega
           have ho0:oe=none:=by
            cases oe with
            | none=>rfl
            | some x=>exact absurd (hkd.2 rfl) hk1
           subst ho0;obtain⟨pg,op,mn,args,ex,al⟩:=E;clear hkd hk1 hal2;dsimp only at hal hxl ⊢;go_wp2_with fail
           go_roundw
           case rel=>exact⟨o+1,code2,om,by go_num,rfl,Hh (HB6.out.alloc HB6.out.size _),HSJ⟩
           case measure=>simp[intOf];omega
       · obtain rfl:o=256:=om
         go_wp2_with fail
         go_roundw
         case rel=>exact⟨p+1,code2,om,by go_num,rfl,HBI,Hh (by rw[←aJp];exact HSI.out)⟩
         case measure=>simp[intOf];omega
    · obtain rfl:p=hi+1:=om
      have hle:¬ ((hi+1:Nat):Int)≤(hi:Int):=om
      have hres:RES=(none,code):=by
       have:=HSC.out
       rw[aJo hi (hi+1) om] at this;exact this.symm
      subst hres;obtain⟨y1,y2,y3,yb,yr⟩:=HBX.out w5 HB5.out;obtain⟨⟨t0,t1,t2,t3,t4,t5⟩,s0,s1,s2,s3,s4,s5⟩:=aN y2;have hl2:=aA y2;have HYB9:=Hh yb;have HY2:=Hh y2;clear y1 y2 y3 yb yr;go_wp2_with fail
      generalize hF:World.setCell (World.setCell (World.setCell (World.setCell (World.setCell (World.setCell w5 _ _) _ _) _ _) _ _) _ _) _ _=F;have hk:Kb (w.heap.size+1) w5 F:=by rw[←hF];exact ((((((Kb.refl _ _).setCell _ _).setCell _ _).setCell _ _).setCell _ _).setCell _ _).setCell _ _
      have hfx:F.heap[w.heap.size+1]? = some (.cells #[.int .i64 0,.int .u8 0,.string ⟨#[]⟩,.slice none 0 0,.string ⟨#[]⟩,.bool false] 107 (0,0)):=by rw[←hF];exact aG (aG (aG (aG (aG (aG HY2.out)))))
      have hbf:=bS HYB9.out HYB9.out.size hk (Nat.le_succ _);clear hF hk t0 t1 t2 t3 t4 t5 s0 s1 s2 s3 s4 s5;obtain⟨⟨r0,r1,r2,r3,r4,r5⟩,_⟩:=aN hfx;have hlf:=aA hfx;exact bodyPost_ret (v:=.tuple #[.agg #[.int .i64 0,.int .u8 0,.string ⟨#[]⟩,.slice none 0 0,.string ⟨#[]⟩,.bool false],.int .i64 code]) (by simp[results,results97,go_sem,r0,r1,r2,r3,r4,r5]) rfl ⟨⟨ent0,none,0,0,rfl⟩,hbf⟩
 · have e0:((k:Int) != 0)=true:=by simp;omega
   rw[if_neg hz];go_enter func97,ntmps97
   go_wp2_with fail
   obtain⟨W0,hW0⟩:∃ W,(w.alloc (.cells #[.string ⟨m.toArray⟩,.slice a l.length c] 53)).alloc (.cells #[.int .i64 0,.int .u8 0,.string ⟨#[]⟩,.slice none 0 0,.string ⟨#[]⟩,.bool false] 107)=W:=⟨_,rfl⟩;have hb0:Below w.heap.size w W0:=by rw[←hW0];exact bl
   have hx2:W0.heap[w.heap.size+1]? = some (.cells #[.int .i64 0,.int .u8 0,.string ⟨#[]⟩,.slice none 0 0,.string ⟨#[]⟩,.bool false] 107 (0,0)):=by
    exact rP
   rw[hW0];have HB0:=Hh hb0;have HX2:=Hh hx2;clear hW0 hb0 hx2 hz;(with_reducible refine (HCK.out _ HB0.out).mono ?_);rintro e w1 ⟨rfl,hb1⟩;have HB1:=Hh (HB0.out.trans (hb1.mono HB0.out.size));have HY2:=Hh (aB HX2.out hb1 (aA HX2.out));clear hb1 HX2;obtain⟨⟨t0,t1,t2,t3,t4,t5⟩,s0,s1,s2,s3,s4,s5⟩:=aN HY2.out;have hl2:=aA HY2.out;go_wp2_with fail
   generalize hF:World.setCell (World.setCell (World.setCell (World.setCell (World.setCell (World.setCell w1 _ _) _ _) _ _) _ _) _ _) _ _=F;have hk:Kb (w.heap.size+1) w1 F:=by rw[←hF];exact ((((((Kb.refl _ _).setCell _ _).setCell _ _).setCell _ _).setCell _ _).setCell _ _).setCell _ _
   have hfx:F.heap[w.heap.size+1]? = some (.cells #[.int .i64 0,.int .u8 0,.string ⟨#[]⟩,.slice none 0 0,.string ⟨#[]⟩,.bool false] 107 (0,0)):=by rw[←hF];exact aG (aG (aG (aG (aG (aG HY2.out)))))
   have hbf:=bS HB1.out HB1.out.size hk (Nat.le_succ _);clear hF hk t0 t1 t2 t3 t4 t5 s0 s1 s2 s3 s4 s5;obtain⟨⟨r0,r1,r2,r3,r4,r5⟩,_⟩:=aN hfx;have hlf:=aA hfx;exact bodyPost_ret (v:=.tuple #[.agg #[.int .i64 0,.int .u8 0,.string ⟨#[]⟩,.slice none 0 0,.string ⟨#[]⟩,.bool false],.int .i64 k]) (by simp[results,results97,go_sem,r0,r1,r2,r3,r4,r5]) rfl ⟨ent0,none,0,0,rfl,hbf⟩
theorem aKs {w:World} {base:Nat} {e:TypeId} {size:Nat} {v:Value} {n:Nat} {xs:List Value} (h:w.ownsRow base e size v n xs):eR w v n xs:=by
 rcases h.2 with⟨h1,h2⟩|⟨g,cap,cur,h1,hg,hh,hn,hc,hs,ht⟩
 · exact .inl ⟨h2,h1⟩
 · refine .inr ⟨⟨g,0,none⟩,cap,h1,fun j u hj=>?_⟩;rw[bD,Nat.zero_add,aC hh j];have hlt:=(List.getElem?_eq_some_iff.1 hj).1;rw[←ht,List.getElem?_take_of_lt (by rw[h.1] at hlt;exact hlt),Array.getElem?_toList] at hj;exact hj
theorem aJl (m:List UInt8) (v:Value) (l:List Op3) (w:World) (hr:Row w v l.length (opc l)) (hs:eR w v l.length (opc l)) (hl:l.length≤900) (hm:m.length≤1000) :
 Calls prog 61 #[eU m v] w fun e w'=>e=.returned (.string (aIg (m,l)))∧Below w.heap.size w w':=by
 have hcl:(bV (m,l)).2.length≤l.length+1:=kM (m,l);have HF:=Hh (fun X (hb:Below w.heap.size w X)=>aIT m v l X (hr.below hb) (aHz hs hb) hl);have HO:=Hh (fun X (hb:Below w.heap.size w X)=>aJb m v l X (hr.below hb) (aHz hs hb) om);have HL:=Hh (fun u X (h:Row X u (bV (m,l)).2.length (opc (bV (m,l)).2))=>aJn u (bV (m,l)).2 X h om);have hsz:=uW (bV (m,l)).2;obtain⟨a,c,rfl,_,_⟩:=hr;obtain⟨T,hT⟩:∃ T,aIg (m,l)=T:=⟨_,rfl⟩;rw[hT];unfold aIg at hT;dsimp only at hT;obtain⟨k,hk⟩:∃ k,(aHx (m,l)).2=k:=⟨_,rfl⟩;obtain⟨C,hC⟩:∃ C,(bV (m,l)).2=C:=⟨_,rfl⟩;rw[hk,hC] at hT;rw[hC] at HL HO hsz hcl;rw[hk] at HF;have hms:(⟨m.toArray⟩:ByteArray).size≤1000:=by show m.toArray.size≤1000;rw[List.size_toArray];exact hm
 have HMS:=Hh hms;have HMM:=Hh hm;have HSZ:=Hh hsz;have HCL:=Hh hcl;have HTT:=Hh hT;have HLL:=Hh hl;clear hs hm hl hcl hsz hT hk hC hms;unfold eU at *;go_enter func61,ntmps61
 go_wp2_with fail
 obtain⟨W0,hW0⟩:∃ W,w.alloc (.cells #[.string ⟨m.toArray⟩,.slice a l.length c] 53)=W:=⟨_,rfl⟩;rw[hW0];have hb0:Below w.heap.size w W0:=by rw[←hW0];exact bl
 have hx0:W0.heap[w.heap.size]? = some (.cells #[.string ⟨m.toArray⟩,.slice a l.length c] 53 (0,0)):=by rw[←hW0];exact aF _ _
 have HB0:=Hh hb0;have HX0:=Hh hx0;clear hW0 hb0 hx0;(with_reducible refine (HF.out _ HB0.out).mono ?_);rintro e w1 ⟨⟨pg,op,mn,args,ex,al⟩,ae,ne,ce,rfl,hb1⟩;have HB1:=Hh (HB0.out.trans (hb1.mono HB0.out.size));have HX1:=Hh (aB HX0.out hb1 (aA HX0.out));clear hb1;by_cases hz:k=0
 · subst hz;rw[if_pos rfl] at HTT;obtain⟨p0,p1,_⟩:=(aL HX1.out);have hl1:=aA HX1.out;go_wp2_with fail
   have HB1a:=Hh (HB1.out.alloc (o:=.cells #[.int .i64 pg,.int .u8 op,.string ⟨mn.toArray⟩,.slice ae ne ce,.string ⟨ex.toArray⟩,.bool al] 107) HB1.out.size);(with_reducible refine (HO.out _ HB1a.out).mono ?_);rintro e w2 ⟨v',rfl,hrow,hb2⟩;have HB2:=Hh (HB1a.out.trans (hb2.mono HB1a.out.size));obtain⟨a',c',rfl,_,_⟩:=id hrow;have HRW:=Hh hrow;clear hb2 hrow p0 p1 hl1;by_cases hn:C=[]
   · subst hn;rw[if_pos rfl] at HTT;have HB3:=Hh (HB2.out.alloc (o:=.cells #[.string ⟨m.toArray⟩,.slice a' ([]:List Op3).length c'] 53) HB2.out.size);dsimp only[List.length_nil];go_wp2_with fail
     go_ret;exact⟨by rw[←HTT.out];rfl,HB3.out⟩
   · rw[if_neg hn] at HTT;obtain⟨n,hnn⟩:∃ n,C.length=n:=⟨_,rfl⟩;have hlen:((n:Int) == 0)=false:=by
      have:=List.length_pos_iff.2 hn
      simp;omega
     obtain⟨W1,hW1⟩:∃ W,w2.alloc (.cells #[.string ⟨m.toArray⟩,.slice a' n c'] 53)=W:=⟨_,rfl⟩;have hb3:Below w2.heap.size w2 W1:=by rw[←hW1];exact br.alloc lr _
     have HB3:=Hh (HB2.out.trans (hb3.mono HB2.out.size));have HRW3:=Hh (HRW.out.below hb3);have hli:=fun W (hb:Below W1.heap.size W1 W)=>HL.out (.slice a' C.length c') W (HRW3.out.below hb);rw[hnn] at hli ⊢;have HLI:=Hh hli;have hmm:=HMM.out;have hls:(mP C).size≤1000000:=by have:=HSZ.out;have:=HCL.out;have:=HLL.out;omega
     have HW1:=Hh hW1;clear hn hnn hli hb3 hW1;go_wp2_with fail
     rw[HW1.out];have hx3:W1.heap[w2.heap.size]? = some (.cells #[.string ⟨m.toArray⟩,.slice a' n c'] 53 (0,0)):=by rw[←HW1.out];exact aF _ _
     obtain⟨p0,p1,_⟩:=aL hx3;have hl3:=aA hx3;clear hx3 HW1;refine bO kr kr ?_;repeat (go_big_quiet_step (first|exact eG (HLI.out _ (bl))))
     refine wpQuiet_nil ?_;rintro W3 ⟨p3,hW3⟩;have hb5:Below W1.heap.size W1 W3:=by rw[hW3];exact bl
     have HB5:=Hh (HB3.out.trans (hb5.mono HB3.out.size));clear hW3 p3 hb5;go_wp2_with fail
     go_ret;exact⟨by rw[←HTT.out];rfl,HB5.out⟩
 · have e0:((k:Int) != 0)=true:=by simp;omega
   rw[if_neg hz] at HTT;go_wp2_with fail
   go_ret;exact⟨by rw[←HTT.out];rfl,HB1.out.alloc HB1.out.size _⟩
theorem aKt (x:It) (vr va:Value) (B0:Nat) (w:World) (hI:ItAt B0 x vr va w) (hi:x.ins.2.length≤900∧x.ins.1.length≤1000) (hrl:x.raw.length≤100000) :
 Calls prog 33 #[itV x vr va] w fun e w'=>e=.returned (.string (dH x))∧Below w.heap.size w w':=by
 have hD:=fun X (hb:Below w.heap.size w X)=>aIl x.raw vr X ((Row.of_owns hI.raw).below hb) hrl;have hS:=fun X (hb:Below w.heap.size w X)=>aJl x.ins.1 va x.ins.2 X (hI.args.row.row.below hb) (aHz (aKs hI.args.own) hb) hi.1 hi.2;obtain⟨ki,ra,⟨im,ia⟩,ial⟩:=x;dsimp only at hD hS;obtain⟨ar,cr,rfl⟩:=aI hI.raw;obtain⟨aa,ca,rfl⟩:=aI hI.args.own;have fin:(dR ⟨ki,ra,(im,ia),ial⟩=true∧ki=1∧ial=false)∨(dR ⟨ki,ra,(im,ia),ial⟩=false∧ki=1∧ial=true)∨(dR ⟨ki,ra,(im,ia),ial⟩=false∧((ki:Int) == 1)=false):=by
  unfold dR;by_cases h:ki=1
  · cases ial<;>simp[h]
  · exact .inr (.inr ⟨by simp[h],by simp;omega⟩)
 have HD:=Hh hD;have HS:=Hh hS;unfold dH;rw[aJz] at HS;clear hD hS hI hi hrl;dsimp only[itV,eU] at HS ⊢;rcases fin with⟨hf,rfl,rfl⟩|⟨hf,rfl,rfl⟩|⟨hf,hk1⟩;all_goals
  rw[hf];clear hf;go_enter func33,ntmps33
  go_wp2_with fail
  first
   | (with_reducible refine (HS.out _ (br.alloc lr _)).mono ?_)
   | (with_reducible refine (HD.out _ (br.alloc lr _)).mono ?_)
  rintro e w2 h2
  first
   | obtain⟨rfl,hb2⟩:=h2
     have HB2:=Hh (((Below.refl w.heap.size w).alloc lr _).trans (hb2.mono (by rw[World.size_alloc];omega)));clear hb2;go_wp2_with fail
     go_ret;exact⟨rfl,HB2.out⟩
   | obtain⟨rfl,rfl⟩:=h2
     go_wp2_with fail
     go_ret;exact⟨rfl,(Below.refl w.heap.size w).alloc lr _⟩
theorem aKp (L:List It) (m:Nat):dJ (L.take m)≤dJ L:=by
 conv=>rhs;rw[←List.take_append_drop m L]
 rw[lC];omega
theorem aKr {L:List It} {m:Nat} {x:It} (h:L[m]? = some x):dJ (L.take (m+1))=dJ (L.take m)+x.raw.length:=by rw[List.take_add_one,h,lC];simp[dJ]
theorem aCS (B:Bool) (C:List Cl) (v:Value) (b0:Nat) (w:World) (hv:w.ownsRow b0 63 2 v C.length (clc C)) (hC:Asc C) (hl:C.length≤60000) :
 Calls prog 18 #[v,.bool B] w fun e w'=>e=.returned (.string ⟨(eD (txB B) (aS C)).toArray⟩)∧Below w.heap.size w w':=by
 have HR:=Hh (Bf C v b0 w hv hC hl);have hRL:∀ r∈aS C,r.2.length≤60000:=fun r hr=>Nat.le_trans (Bg hr) hl;have hRA:∀ r∈aS C,r.1≤65535:=fun r hr=>by have:=xY hC hr;omega
 have hrc:=Nat.le_trans (iH C) hl;have hNT:∀ r∈aS C,(aX (r.1:Int)).size≤1000:=fun r _=>Nat.le_trans (nD _) dc;have HWS:=Hh (fun j=>aEm (aFY B) hRL hNT hrc j);have HLS:=Hh (fun j a b (h:(aS C)[j]? = some (a,b)) m=>aFk (aFY B) h hRL hNT hrc m);have HLE:=Hh (fun j a b (h:(aS C)[j]? = some (a,b))=>aFG (txB B) h);have HRL:=Hh hRL;have HRA:=Hh hRA;obtain⟨a0,c0,rfl⟩:=aI hv;obtain⟨tx,htx⟩:∃ tx,txB B=tx:=⟨_,rfl⟩;have HTX:=Hh htx;rw[htx] at HWS HLS HLE ⊢;generalize aS C=R at *;clear hv hC hl hRL hRA hNT htx;obtain⟨TJ,hTJ⟩:∃ TJ:Nat→ByteArray,(fun j=>(⟨(eD tx (R.take j)).toArray⟩:ByteArray))=TJ:=⟨_,rfl⟩;have hT0:TJ 0=⟨#[]⟩:=by rw[←hTJ];simp[eD]
 have hTE:(⟨(eD tx R).toArray⟩:ByteArray)=TJ R.length:=by rw[←hTJ];simp
 have hTS:∀ j,(TJ j).size≤100000000000000:=fun j=>by rw[←hTJ];exact HWS.out j
 have hTL:∀ j a b,R[j]? = some (a,b)→aDl tx (eD tx (R.take j)) a (dI b) (dI b).length=TJ (j+1):=fun j a b h=>by rw[←hTJ];exact HLE.out j a b h
 have hTZ:∀ (j a:Nat) L,TJ j++⟨#[9,79,82,71,32]⟩++aX (a:Int)++⟨#[10]⟩=aDl tx (eD tx (R.take j)) a L 0:=fun j a L=>by rw[←hTJ];exact aFj tx _ a L
 have HTS:=Hh hTS;have HTL:=Hh hTL;have HTZ:=Hh hTZ;have HTE:=Hh hTE;rw[HTE.out];clear hTJ hTS hTL hTZ hTE HWS HLE;go_enter func18,ntmps18
 go_wp2_with fail
 (with_reducible refine HR.out.mono ?_);rintro e w1 ⟨u,rs,rfl,hrs,hrows,hb1⟩;have HRS:=Hh hrs;have HROW:=Hh hrows;have HB1:=Hh hb1;have hrl:rs.length=R.length:=by rw[←hrs,List.length_map]
 obtain⟨av,cv,rfl⟩:=aI hrows.own;have hrs60:rs.length≤60000:=om
 have HRLN:=Hh hrl;clear hrs hrows hb1 HR hrl;go_wp2_with fail
 rw[←hT0];clear hT0;go_loopw [5,7] (fun s i wr=>∃ j:Nat,j≤rs.length∧s=.string (TJ j)∧i=.int .i64 j∧Hid (Below w1.heap.size w1 wr)) (fun _ i _=>rs.length - (intOf i).toNat)
 case atStart=>exact⟨0,Nat.zero_le _,rfl,rfl,Hh br⟩
 case round =>
  obtain⟨j,hj,rfl,rfl,HB⟩:=hrel;by_cases hlt:j<rs.length
  · obtain⟨x,hx⟩:∃ x,rs[j]? = some x:=⟨_,List.getElem?_eq_getElem hlt⟩;obtain⟨_,_,hvv,hcv,hh⟩:=HROW.out.get;cases hvv
    obtain⟨g,o,rfl,_,hg,hcs⟩:=hh (by rintro rfl;exact absurd hlt (Nat.not_lt_zero _))
    obtain⟨k0,k1⟩:=hcs j x hx;have hxo:=HROW.out.has x (List.mem_of_getElem? hx);have hRj:R[j]? = some x.1:=by rw[←HRS.out,List.getElem?_map,hx];rfl
    have hbl:=HRL.out x.1 (List.mem_of_getElem? hRj);have hba:=HRA.out x.1 (List.mem_of_getElem? hRj);obtain⟨⟨ad,bs⟩,vb⟩:=x;dsimp only at k0 k1 hxo hbl hba;have hT1:=HTL.out j ad bs hRj;have hTZ:=HTZ.out j ad (dI bs);have hLS:=HLS.out j ad bs hRj;have hLN:=fun m x (h:(dI bs)[m]? = some x)=>aFl (tx:=tx) (T:=eD tx (R.take j)) (a:=ad) h;have hraw:dJ (dI bs)=bs.length:=jO bs;obtain⟨LT,hLT⟩:∃ LT,aDl tx (eD tx (R.take j)) ad (dI bs)=LT:=⟨_,rfl⟩;rw[hLT] at hT1 hTZ hLS hLN;have hts:=HTS.out j;obtain⟨ab,cb,rfl⟩:=aI hxo;have m0:=(HB.out.cell (p:=⟨g,o+j*2,none⟩) hg).trans k0;have m1:=(HB.out.cell (p:=⟨g,o+j*2+1,none⟩) hg).trans k1;have hgw:g<wr.heap.size:=Nat.lt_of_lt_of_le hg HB.out.size;have HDC:=Hh (fun W (hb:Below w1.heap.size w1 W)=>yE bs (.slice ab bs.length cb) W ((Row.of_owns hxo).below hb) om);have hi0:(0:Int)≤(j:Int):=om
    have hi1:(j:Int)<(rs.length:Int):=om
    have hnt:=nD (ad:Int);have hdl:=kK bs;have HT1:=Hh hT1;have HTZ0:=Hh hTZ;have HLSZ:=Hh hLS;have HLNX:=Hh hLN;have HRAW:=Hh hraw;have HBL:=Hh hbl;have HBA:=Hh hba;have HDL:=Hh hdl;obtain⟨L,hL⟩:∃ L,dI bs=L:=⟨_,rfl⟩;have HINS:=Hh (fun x (h:x∈dI bs)=>xA _ _ x h);rw[hL] at HT1 HLNX HRAW HDL HINS;rw[hL] at HDC;clear hh hcs k0 k1 hxo hx hRj hT1 hTZ hLS hLN hraw hLT hL hdl;go_wp2_with fail
    (with_reducible refine (aDA (ad:Int) _).mono ?_);rintro e w2 ⟨rfl,rfl⟩;go_wp2_with fail
    rw[HTZ0.out];(with_reducible refine (HDC.out _ HB.out).mono ?_);rintro e w3 ⟨v3,its,rfl,hits,hia,hb3⟩;have HB3:=Hh (HB.out.trans (hb3.mono HB.out.size));have HIA:=Hh hia;have HITS:=Hh hits;obtain⟨ai,ci,rfl⟩:=aI hia.own;have hil:its.length=L.length:=by rw[←hits,List.length_map]
    have HIL:=Hh hil;clear hits hia hb3 m0 m1 hgw hnt hts hil;go_wp2_with fail
    go_loopw [5,8,10] (fun s d i W=>∃ m:Nat,m≤its.length∧s=.string (LT m)∧d=.int .i64 (ad+dJ (L.take m):Nat)∧i=.int .i64 m∧Hid (Below w3.heap.size w3 W)) (fun _ _ i _=>its.length - (intOf i).toNat)
    case atStart=>exact⟨0,Nat.zero_le _,rfl,by simp[dJ],rfl,Hh br⟩
    case round =>
     obtain⟨n,hn,rfl,rfl,rfl,HW⟩:=hrel;by_cases hmt:n<its.length
     · obtain⟨y,hy⟩:∃ y,its[n]? = some y:=⟨_,List.getElem?_eq_getElem hmt⟩;obtain⟨_,_,hvv,hci,hh⟩:=HIA.out.get;cases hvv
       obtain⟨gi,oi,rfl,_,hgi,hcs⟩:=hh (by rintro rfl;exact absurd hmt (Nat.not_lt_zero _))
       obtain⟨n0,n1,n2,n3,n4⟩:=hcs n y hy;have hat:=HIA.out.has y (List.mem_of_getElem? hy);have hLm:L[n]? = some y.1:=by rw[←HITS.out,List.getElem?_map,hy];rfl
       have hinm:=HINS.out y.1 (List.mem_of_getElem? hLm);have hnx:=HLNX.out n y.1 hLm;have hrt:=aKp L n;have hrt2:=aKp L (n+1);have hrn:=aKr hLm;have hraw:=HRAW.out;have hbl2:=HBL.out;have hba2:=HBA.out;have hyl:y.1.raw.length≤60000:=om
       have hi900:y.1.ins.2.length≤900∧y.1.ins.1.length≤1000:=⟨Nat.le_trans hinm.2 dc,Nat.le_trans hinm.1 dc⟩;have his:=Cp y.1 hinm;have hisz:(dH y.1).size≤500000:=om
       have hitem:=fun W (hb:Below w3.heap.size w3 W)=>aKt y.1 y.2.1 y.2.2 _ W (hat.below hb) hi900 om;have hls:=HLSZ.out n;have hrawr:=Row.of_owns hat.raw;have hmt2:=HIL.out;have hdl2:=HDL.out;have hnb:n≤60000:=om
       have htl:its.length≤60000:=om
       obtain⟨AD,hAD⟩:∃ k,ad+dJ (L.take n)=k:=⟨_,rfl⟩;have hADn:ad+dJ (L.take (n+1))=AD+y.1.raw.length:=om
       have hADb:AD≤200000:=om
       rw[hAD] at hnx ⊢;have HADN:=Hh hADn;obtain⟨⟨ki,ra,⟨im,ia⟩,ial⟩,vr,va⟩:=y;clear his;dsimp only at n0 n1 n2 n3 n4 hnx hyl hisz hitem hrawr HADN;obtain⟨ar,cr,rfl,hcr,hrr⟩:=hrawr;obtain⟨aa,ca,hva⟩:=aI hat.args.own;dsimp only at hva;subst hva;have HCL:=Hh (fun W (hb:Below w3.heap.size w3 W)=>And.intro ((hb.cell (p:=⟨gi,oi+n*5,none⟩) hgi).trans n0) (And.intro ((hb.cell (p:=⟨gi,oi+n*5+1,none⟩) hgi).trans n1) (And.intro ((hb.cell (p:=⟨gi,oi+n*5+2,none⟩) hgi).trans n2) (And.intro ((hb.cell (p:=⟨gi,oi+n*5+3,none⟩) hgi).trans n3) (And.intro ((hb.cell (p:=⟨gi,oi+n*5+4,none⟩) hgi).trans n4) (Nat.lt_of_lt_of_le hgi hb.size))))));have HRR:=Hh hrr;obtain⟨X0,hX0⟩:∃ x,(⟨ki,ra,(im,ia),ial⟩:It)=x:=⟨_,rfl⟩;rw[hX0] at hisz hitem hnx;have hrawX:X0.raw=ra:=by rw[←hX0]
       have hits:itV X0 (.slice ar ra.length cr) (.slice aa ia.length ca)=.agg #[.int .i64 ki,.slice ar ra.length cr,.string ⟨im.toArray⟩,.slice aa ia.length ca,.bool ial]:=by rw[←hX0];rfl
       rw[hits] at hitem;have HIT:=Hh hitem;have HNX:=Hh hnx;have HRX:=Hh hrawX;have HYY:=Hh hy;have q0:(0:Int)≤(n:Int):=om
       have q1:(n:Int)<(its.length:Int):=om
       have hcr2:(ra.length:Int)≤(cr:Int):=om
       obtain⟨IS,hIS⟩:∃ s,dH X0=s:=⟨_,rfl⟩;rw[hIS] at hisz HIT;have HIS:=Hh hIS;obtain⟨c0,c1,c2,c3,c4,hgw⟩:=HCL.out wr HW.out;obtain⟨SL,hSL⟩:∃ s,LT n=s:=⟨_,rfl⟩;rw[hSL] at hls;have HSL:=Hh hSL;clear hh hcs n0 n1 n2 n3 n4 hat hy hLm hinm hnx hrt hrn hraw hrt2 hbl2 hba2 hi900 hitem hmt2 hdl2 hADn hX0 hrawX hits hIS hrr hAD;rw[hSL];clear hSL;cases B
       · have hstep:SL++⟨#[9]⟩++IS++⟨#[10]⟩=LT (n+1):=by
          rw[←HNX.out,HSL.out,←HIS.out,←HTX.out];rfl
         have HST:=Hh hstep;clear hstep;go_wp2_with fail
         (with_reducible refine (HIT.out _ HW.out).mono ?_);rintro e w5 ⟨rfl,hb5⟩;have HW5:=Hh (HW.out.trans (hb5.mono HW.out.size));clear c0 c1 c2 c3 c4 hgw hb5;obtain⟨c0,c1,c2,c3,c4,hgw⟩:=HCL.out w5 HW5.out;go_wp2_with fail
         go_roundw
         case rel=>exact⟨n+1,om,by rw[HST.out],by rw[HADN.out];go_num,by go_num,HW5⟩
         case measure=>simp[intOf];omega
       · have hc0:=aJJ SL AD X0;have hcn:=fun q b (h:X0.raw[q]? = some b)=>aJL (S:=SL) (ad:=AD) h;have hce:=aKa SL AD X0;have hcz:=fun q=>aJK SL AD X0 q;rw[HIS.out] at hc0 hcz;rw[HRX.out] at hcn hce hcz;obtain⟨CT,hCT⟩:∃ f,aId SL AD X0=f:=⟨_,rfl⟩;rw[hCT] at hc0 hcn hce hcz;have hend:CT ra.length++⟨#[10]⟩=LT (n+1):=by
          rw[hce,←HNX.out,HSL.out,←HTX.out];rfl
         have hcb:∀ q,(CT q).size≤200000000000000:=fun q=>by have:=hcz q;omega
         have hx4:∀ W,Calls prog 34 #[.int .i64 AD,.int .i64 4] W fun e w'=>e=.returned (.string ⟨(hx 4 AD).toArray⟩)∧W=w':=fun W=>aEF AD 4 W om dc;have hs4:(⟨(hx 4 AD).toArray⟩:ByteArray).size≤4:=by show (hx 4 AD).toArray.size≤4;rw[List.size_toArray,aCI];exact Nat.le_refl _
         obtain⟨H4,hH4⟩:∃ s,(⟨(hx 4 AD).toArray⟩:ByteArray)=s:=⟨_,rfl⟩;rw[hH4] at hc0 hx4 hs4;have HC0:=Hh hc0;have HCN:=Hh hcn;have HEND:=Hh hend;have HCB:=Hh hcb;have HX4:=Hh hx4;clear hc0 hcn hce hcz hCT hend hcb hx4 hH4;go_wp2_with fail
         (with_reducible refine (HIT.out _ HW.out).mono ?_);rintro e w5 ⟨rfl,hb5⟩;have HW5:=Hh (HW.out.trans (hb5.mono HW.out.size));clear c0 c1 c2 c3 c4 hgw hb5;obtain⟨c0,c1,c2,c3,c4,hgw⟩:=HCL.out w5 HW5.out;go_wp2_with fail
         (with_reducible refine (HX4.out _).mono ?_);rintro e w6 ⟨rfl,rfl⟩;go_wp2_with fail
         rw[HC0.out];clear c0 c1 c2 c3 c4 hgw hs4;go_loopw [5,11] (fun s i W6=>∃ q:Nat,q≤ra.length∧s=.string (CT q)∧i=.int .i64 q∧Hid (Below w3.heap.size w3 W6)) (fun _ i _=>ra.length - (intOf i).toNat)
         case atStart=>exact⟨0,Nat.zero_le _,rfl,rfl,HW5⟩
         case round =>
          obtain⟨q,hq,rfl,rfl,HQ⟩:=hrel;obtain⟨c0,c1,c2,c3,c4,hgw⟩:=HCL.out wr HQ.out;have hcq:=HCB.out q;by_cases hqt:q<ra.length
          · obtain⟨b,hb⟩:∃ b,ra[q]? = some b:=⟨_,List.getElem?_eq_getElem hqt⟩;obtain⟨g2,o2,rfl,hg2,hcs2⟩:=HRR.out (by intro e;have h1:=fS ra;rw[e] at h1;simp at h1;omega);have k0:wr.cell? ⟨g2,o2+q,none⟩=some (.int .u8 b.toNat):=by
             have h1:=hcs2 q (by rw[fS];exact hqt);rw[oS hb] at h1;exact (HQ.out.cell (p:=⟨g2,o2+q,none⟩) hg2).trans h1
            have hwb:wrap64 (b.toNat:Int)=(b.toNat:Int):=IntWalk.wrap64_in _ (by have:=b.toNat_lt;omega);have hx2:∀ W,Calls prog 34 #[.int .i64 b.toNat,.int .i64 2] W fun e w'=>e=.returned (.string ⟨(hx 2 b.toNat).toArray⟩)∧W=w':=fun W=>aEF b.toNat 2 W (by have:=b.toNat_lt;omega) dc;have hs2:(⟨(hx 2 b.toNat).toArray⟩:ByteArray).size≤2:=by show (hx 2 b.toNat).toArray.size≤2;rw[List.size_toArray,aCI];exact Nat.le_refl _
            have hst:=HCN.out q b hb;obtain⟨H2,hH2⟩:∃ s,(⟨(hx 2 b.toNat).toArray⟩:ByteArray)=s:=⟨_,rfl⟩;rw[hH2] at hst hx2 hs2;obtain⟨SQ,hSQ⟩:∃ s,CT q=s:=⟨_,rfl⟩;rw[hSQ] at hst hcq ⊢;have HST:=Hh hst;have HX2:=Hh hx2;have r0:(0:Int)≤(q:Int):=om
            have r1:(q:Int)<(ra.length:Int):=om
            clear hst hx2 hH2 hcs2 hb hSQ;go_wp2_with fail
            (with_reducible refine (HX2.out _).mono ?_);rintro e w7 ⟨rfl,rfl⟩;go_wp2_with fail
            rw[HST.out];go_roundw
            case rel=>exact⟨q+1,om,rfl,by go_num,HQ⟩
            case measure=>simp[intOf];omega
          · obtain rfl:q=ra.length:=om
            go_wp2_with fail
            go_roundw
            case rel=>exact⟨n+1,om,by rw[HEND.out],by rw[HADN.out];go_num,by go_num,HQ⟩
            case measure=>simp[intOf];omega
     · obtain rfl:n=its.length:=om
       have hlast:LT its.length=TJ (j+1):=by rw[HIL.out];exact HT1.out
       rw[hlast];have HNX:=Hh (HB3.out.trans (HW.out.mono HB3.out.size));clear hlast;go_wp2_with fail
       go_roundw
       case rel=>exact⟨j+1,om,rfl,by go_num,HNX⟩
       case measure=>simp[intOf];omega
  · obtain rfl:j=rs.length:=om
    rw[HRLN.out];go_wp2_with fail
    go_ret;exact⟨rfl,HB1.out.trans (HB.out.mono HB1.out.size)⟩
theorem aER {rs:List RgX} (hf:tW (rs.map Prod.fst)=true):(cS [] (rs.map Prod.fst)).length≤3000:=by
 unfold tW at hf;rw[Bool.and_eq_true,decide_eq_true_eq,decide_eq_true_eq] at hf;have h1:=nK (rs.map Prod.fst) [];have h2:=(Ez _ hf.2).2;rw[List.length_nil,Nat.zero_add] at h1;omega
theorem aFo (b:Nat) (C:List Cl) (w:World) (hI:ImgAt b C w) (hTB:TabB w) (hT:∀ W,Below w.heap.size w W→TabsA W) (hn:C.length≤60000) :
 Calls prog 19 #[.pointer (some ⟨b,0,none⟩)] w fun e w'=>e=.returned (.string ⟨(eD aCs (aS C)).toArray⟩)∧Below w.heap.size w w':=by
 have HW:=Hh (aEn b C w hI hTB hT hn);clear hI hTB hT hn;generalize eD aCs (aS C)=R at *;go_enter func19,ntmps19
 go_wp2_with fail
 (with_reducible refine HW.out.mono ?_);rintro e w1 ⟨rfl,hb1⟩;have HB1:=Hh hb1;clear hb1;go_wp2_with fail
 go_ret;exact⟨rfl,HB1.out⟩
theorem aCT (rs:List RgX) (v:Value) (w:World) (h:RgAt w v rs) (hl:rs.length≤maxLen) (hT:TabsA w) (hTB:TabB w) :
 Calls prog 5 #[v] w fun e w'=>e=.returned (.bool true)∧Below w.heap.size w w':=by
 have HFW:=Hh (fun X (hb:Below w.heap.size w X)=>Fa rs v X (h.below hb) hl);have HBU:=Hh (Ji rs v w h hTB hl);have HAL:=Hh (fun X (hb:Below w.heap.size w X)=>Up X (hT.below hb) (hTB.below hb));have HT:=Hh hT;have HTB:=Hh hTB;have hlen:=@aER rs;obtain⟨a,c,rfl,_,_⟩:=h.get;cases hf:tW (rs.map Prod.fst)
 · simp only[hf] at HFW HBU;clear h hT hTB hf hl hlen;go_enter func5,ntmps5
   go_wp2_with fail
   (with_reducible refine HBU.out.mono ?_);rintro e w1 ⟨_,h2⟩;obtain⟨rfl,hb1⟩:=h2 trivial;have HB1:=Hh hb1;clear h2 hb1;go_wp2_with fail
   (with_reducible refine (HAL.out _ HB1.out).mono ?_);rintro e w2 ⟨rfl,hb2⟩;have HB2:=Hh (HB1.out.trans (hb2.mono HB1.out.size));clear hb2;go_wp2_with fail
   (with_reducible refine (HFW.out _ HB2.out).mono ?_);rintro e w3 ⟨rfl,rfl⟩;go_wp2_with fail
   go_ret;exact⟨rfl,HB2.out⟩
 · have hn:=hlen hf;have hasc:=nL (rs.map Prod.fst) [] ⟨List.Pairwise.nil,by simp⟩
   simp only[hf] at HFW HBU;unfold Qz at HBU;generalize cS [] (rs.map Prod.fst)=C at *;have HASC:=Hh hasc;have HN:=Hh hn;clear h hT hTB hf hl hlen hasc hn;go_enter func5,ntmps5
   go_wp2_with fail
   (with_reducible refine HBU.out.mono ?_);rintro e w1 ⟨h1,_⟩;obtain⟨b,vc,rfl,hbl,him,hrow,hb1⟩:=h1 trivial;have HLS:=Hh (fun X (hb:Below w1.heap.size w1 X)=>yX b C X (him.below hb him.raw.lt) (HTB.out.below (hb1.trans (hb.mono hb1.size))) (fun W hb2=>HT.out.below ((hb1.trans (hb.mono hb1.size)).trans (hb2.mono (Nat.le_trans hb1.size hb.size)))) (by have:=HN.out;omega));have HLF:=Hh (fun X (hb:Below w1.heap.size w1 X)=>aFo b C X (him.below hb him.raw.lt) (HTB.out.below (hb1.trans (hb.mono hb1.size))) (fun W hb2=>HT.out.below ((hb1.trans (hb.mono hb1.size)).trans (hb2.mono (Nat.le_trans hb1.size hb.size)))) (by have:=HN.out;omega));have HRS:=Hh (fun X (hb:Below w1.heap.size w1 X)=>aCS false C vc w.heap.size X (bK hrow hb) HASC.out (by have:=HN.out;omega));have HRF:=Hh (fun X (hb:Below w1.heap.size w1 X)=>aCS true C vc w.heap.size X (bK hrow hb) HASC.out (by have:=HN.out;omega));rw[show txB false=(fun _ x=>dH x) from rfl] at HRS
   rw[show txB true=aCs from rfl] at HRF
   obtain⟨ac,cc,rfl⟩:=aI hrow;have HB1:=Hh hb1;generalize (⟨(eD (fun _ x=>dH x) (aS C)).toArray⟩:ByteArray)=TL at *;generalize (⟨(eD aCs (aS C)).toArray⟩:ByteArray)=TF at *;clear h1 him hrow hb1;go_wp2_with fail
   (with_reducible refine (HAL.out _ HB1.out).mono ?_);rintro e w2 ⟨rfl,hb2⟩;have HB2:=Hh (HB1.out.trans (hb2.mono HB1.out.size));have HC2:=Hh ((Below.refl w1.heap.size w1).trans hb2);clear hb2;go_wp2_with fail
   (with_reducible refine (HLS.out _ HC2.out).mono ?_);rintro e w3 ⟨rfl,hb3⟩;have HC3:=Hh (HC2.out.trans (hb3.mono HC2.out.size));clear hb3;go_wp2_with fail
   (with_reducible refine (HRS.out _ HC3.out).mono ?_);rintro e w4 ⟨rfl,hb4⟩;have HC4:=Hh (HC3.out.trans (hb4.mono HC3.out.size));clear hb4;go_wp2_with fail
   (with_reducible refine (HLF.out _ HC4.out).mono ?_);rintro e w5 ⟨rfl,hb5⟩;have HC5:=Hh (HC4.out.trans (hb5.mono HC4.out.size));clear hb5;go_wp2_with fail
   (with_reducible refine (HRF.out _ HC5.out).mono ?_);rintro e w6 ⟨rfl,hb6⟩;have HC6:=Hh (HC5.out.trans (hb6.mono HC5.out.size));clear hb6;go_wp2_with fail
   go_ret;exact⟨rfl,HB1.out.trans (HC6.out.mono HB1.out.size)⟩
end Go.Proofs.YtoigglljnklhlaaGreatDoor
