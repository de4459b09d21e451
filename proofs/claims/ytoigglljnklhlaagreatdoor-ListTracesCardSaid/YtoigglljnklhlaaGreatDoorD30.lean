/- Joined. -/
import Derived.Test.YtoigglljnklhlaaGreatDoorD29
import Derived.Test.YtoigglljnklhlaaGreatDoorDY1
set_option maxHeartbeats 8000000
set_option maxRecDepth 100000
namespace Go.Proofs.YtoigglljnklhlaaGreatDoor
section
open Go.RowKit Go.Sort
theorem xM (s:ByteArray):(cH s).size=s.size:=by
 show (cH s).data.size=s.data.size
 simp[cH]
theorem nD (n:Int):(aX n).size≤6:=by
 have h4:=gM 4 n.toNat;have hu:(cH ⟨(bL 4 n.toNat).toArray⟩++(⟨#[72]⟩:ByteArray)).size≤5:=by
  rw[Qm,xM];show (bL 4 n.toNat).toArray.size+1≤_
  rw[Qx];omega
 unfold aX;split
 · show 0≤_;omega
 · split
   · show 1≤_;omega
   · split
     · rw[Qm];show 1+_≤_;omega
     · omega
end
section
open Go.RowKit Go.Sort
open Go.Proofs.Tryz
theorem aJx (b:UInt8):vM [b]=⟨#[68,69,70,66,32]⟩++aX (b.toNat:Int):=by
 unfold vM jY uZ;rw[if_neg sm,Xt,List.map_nil,Xt,List.map_nil,Lib.join_one]
theorem aIX {bs:List UInt8} (b:UInt8) (h:bs≠[]):vM (bs++[b])=vM bs++⟨#[44]⟩++aX (b.toNat:Int):=by
 obtain⟨x,r,rfl⟩:=List.exists_cons_of_ne_nil h;have ht:∀ r:List (List UInt8),∀ y,Lib.joinTail [44] (r++[y])=Lib.joinTail [44] r++([44]++y):=fun r y=>by simp[Lib.joinTail]
 unfold vM;rw[if_neg sm,if_neg sm];apply ByteArray.ext
 unfold uZ jY;simp only[Ym,Xt,List.map_nil,Xy,Lib.join_cons,ht,Xq];apply Array.toList_inj.1
 simp
theorem aIW {bs:List UInt8} {j:Nat} {b:UInt8} (h:bs[j]? = some b) (hj:j≠0):vM (bs.take (j+1))=vM (bs.take j)++⟨#[44]⟩++aX (b.toNat:Int):=by
 rw[Qo,h];exact aIX b (by intro e;have h1:=congrArg List.length e;rw[Qt,Qz] at h1;have:=(Qd.1 h).1;omega)
theorem aIl (bs:List UInt8) (v:Value) (w:World) (hr:Row w v bs.length (aT bs)) (hl:bs.length≤100000) :
 Calls prog 62 #[v] w fun e w'=>e=.returned (.string (vM bs))∧w=w':=by
 obtain⟨a,c,rfl,hcap,hh⟩:=hr;have HH:=Hh hh;have HD:=Hh (fun j=>Dj (bs.take j));have hcc:(bs.length:Int)≤(c:Int):=om
 clear hh hcap;go_enter func62,ntmps62
 go_wp2_with fail
 go_loopw [3,4] (fun s i wr=>wr=w∧∃ j:Nat,j≤bs.length∧s=.string (vM (bs.take j))∧i=.int .i64 j) (fun _ i _=>bs.length - (intOf i).toNat)
 case atStart=>exact⟨rfl,0,Qi _,rfl,rfl⟩
 case round =>
  obtain⟨rfl,j,hj,rfl,rfl⟩:=hrel;by_cases hlt:j<bs.length
  · obtain⟨b,hb⟩:∃ b,bs[j]? = some b:=⟨_,Qb hlt⟩;obtain⟨g,o,rfl,hg,hcs⟩:=HH.out (by intro e;have h1:=fS bs;rw[e] at h1;simp at h1;omega);have k0:wr.cell? ⟨g,o+j,none⟩=some (.int .u8 b.toNat):=by
     have h1:=hcs j (by rw[fS];exact hlt);rw[oS hb] at h1;exact h1
    have hwb:wrap64 (b.toNat:Int)=(b.toNat:Int):=IntWalk.wrap64_in _ (by have:=b.toNat_lt;omega);have hnt:=nD (b.toNat:Int);have hds:(vM (bs.take j)).size≤1000000:=by have h1:=HD.out j;rw[Qt] at h1;omega
    have hi0:(0:Int)≤(j:Int):=om
    have hi1:(j:Int)<(bs.length:Int):=om
    clear hcs;by_cases hz:j=0
    · subst hz;have hst:vM (bs.take (0+1))=⟨#[68,69,70,66,32]⟩++aX (b.toNat:Int):=by rw[Qo,hb];exact aJx b
      have HST:=Hh hst;clear hst hb;rw[Xu] at k0;go_wp2_with fail
      refine (aDA (b.toNat:Int) _).mono ?_;rintro e w1 ⟨rfl,rfl⟩;go_wp2_with fail
      rw[←HST.out];go_roundw
      case rel=>exact⟨trivial,0+1,om,rfl,by go_num⟩
      case measure=>simp[intOf];omega
    · have hzb:((j:Int) == 0)=false:=by simp[hz]
      have HST:=Hh (aIW hb hz);clear hb hz;generalize vM (bs.take j)=SJ at *;go_wp2_with fail
      refine (aDA (b.toNat:Int) _).mono ?_;rintro e w1 ⟨rfl,rfl⟩;go_wp2_with fail
      rw[←HST.out];go_roundw
      case rel=>exact⟨trivial,j+1,om,rfl,by go_num⟩
      case measure=>simp[intOf];omega
  · obtain rfl:j=bs.length:=om
    rw[Qy];go_wp2_with fail
    go_ret;exact⟨rfl,rfl⟩
def dH (x:It):ByteArray:=if dR x then xR x.ins else vM x.raw
theorem Hq (x:It) (vr va:Value) (w:World) (hT:TabsA w) (hr:Row w vr x.raw.length (aT x.raw)) (ha:Row w va x.ins.2.length (opc x.ins.2)) (hrl:x.raw.length≤100000) (hal:x.ins.2.length≤900) (hml:x.ins.1.length≤1000) :
 Calls prog 59 #[itV x vr va] w fun e w'=>e=.returned (.string (dH x))∧Below w w w':=by
 have hcl:(bV (x.ins.1,x.ins.2)).2.length≤x.ins.2.length+1:=kM (x.ins.1,x.ins.2);have hls:=uW (bV (x.ins.1,x.ins.2)).2;have hD:=fun X (hb:Below w w X)=>Ja x.raw vr X (hT.below hb).t (hr.below hb) hrl;have hS:=fun X (hb:Below w w X)=>Ll x.ins.1 va x.ins.2 X (hT.below hb) (ha.below hb) hal hml om;obtain⟨ki,ra,⟨im,ia⟩,ial⟩:=x;dsimp only at hr ha hD hS;obtain⟨ar,cr,rfl,_,_⟩:=hr;obtain⟨aa,ca,rfl,_,_⟩:=ha;have fin:(dR ⟨ki,ra,(im,ia),ial⟩=true∧ki=1∧ial=false)∨(dR ⟨ki,ra,(im,ia),ial⟩=false∧ki=1∧ial=true)∨(dR ⟨ki,ra,(im,ia),ial⟩=false∧((ki:Int) != 1)=true):=by
  unfold dR;by_cases h:ki=1
  · cases ial<;>simp[h]
  · exact .inr (.inr ⟨by simp[h],by simp;omega⟩)
 have HD:=Hh hD;have HS:=Hh hS;unfold dH;clear hD hS hT hcl hls;dsimp only[itV,eU] at HS ⊢;have HBL:=Hh (fun X (hX:Below w w X)=>hX);rcases fin with⟨hf,rfl,rfl⟩|⟨hf,rfl,rfl⟩|⟨hf,hk1⟩;all_goals
  rw[hf];clear hf;go_enter func59,ntmps59
  go_wp2_with fail
  first
   | (with_reducible refine (HS.out _ (br.alloc lr _)).mono ?_)
   | (with_reducible refine (HD.out _ (br.alloc lr _)).mono ?_)
  rintro e w2 ⟨rfl,hb2⟩;have HB2:=Hh (((Below.refl w w).alloc lr _).trans (hb2.mono (by rw[Qa];omega)));clear hb2;go_wp2_with fail
  go_ret;exact⟨rfl,HB2.out⟩
theorem aKs {w:World} {base:Nat} {e:TypeId} {size:Nat} {v:Value} {n:Nat} {xs:List Value} (h:w.ownsRow base e size v n xs):eR w v n xs:=by
 rcases h.2 with⟨h1,h2⟩|⟨g,cap,cur,h1,hg,hh,hn,hc,hs,ht⟩
 · exact .inl ⟨h2,h1⟩
 · refine .inr ⟨⟨g,0,none⟩,cap,h1,fun j u hj=>?_⟩;rw[bD,Xb,aC hh j];have hlt:=(Qd.1 hj).1;rw[←ht,Yt (by rw[h.1] at hlt;exact hlt),Xo] at hj;exact hj
theorem aJl (m:List UInt8) (v:Value) (l:List Op3) (w:World) (hr:Row w v l.length (opc l)) (hs:eR w v l.length (opc l)) (hl:l.length≤900) (hm:m.length≤1000) :
 Calls prog 61 #[eU m v] w fun e w'=>e=.returned (.string (aIg (m,l)))∧Below w w w':=by
 have hcl:(bV (m,l)).2.length≤l.length+1:=kM (m,l);have HF:=Hh (fun X (hb:Below w w X)=>aIT m v l X (hr.below hb) (aHz hs hb) hl);have HO:=Hh (fun X (hb:Below w w X)=>aJb m v l X (hr.below hb) (aHz hs hb) om);have HL:=Hh (fun u X (h:Row X u (bV (m,l)).2.length (opc (bV (m,l)).2))=>aJn u (bV (m,l)).2 X h om);have hsz:=uW (bV (m,l)).2;obtain⟨a,c,rfl,_,_⟩:=hr;obtain⟨T,hT⟩:∃ T,aIg (m,l)=T:=⟨_,rfl⟩;rw[hT];unfold aIg at hT;dsimp only at hT;obtain⟨k,hk⟩:∃ k,(aHx (m,l)).2=k:=⟨_,rfl⟩;obtain⟨C,hC⟩:∃ C,(bV (m,l)).2=C:=⟨_,rfl⟩;rw[hk,hC] at hT;rw[hC] at HL HO hsz hcl;rw[hk] at HF;have hms:(⟨m.toArray⟩:ByteArray).size≤1000:=by show m.toArray.size≤1000;rw[Qx];exact hm
 have HMS:=Hh hms;have HMM:=Hh hm;have HSZ:=Hh hsz;have HCL:=Hh hcl;have HTT:=Hh hT;have HLL:=Hh hl;clear hs hm hl hcl hsz hT hk hC hms;unfold eU at *;go_enter func61,ntmps61
 go_wp2_with fail
 obtain⟨W0,hW0⟩:∃ W,w.alloc (.cells #[m,.slice a l.length c] 53)=W:=⟨_,rfl⟩;rw[hW0];have hb0:Below w w W0:=by rw[←hW0];exact bl
 have hx0:W0.heap[w.heap.size]? = some (.cells #[m,.slice a l.length c] 53 (0,0)):=by rw[←hW0];exact aF _ _
 have HB0:=Hh hb0;have HX0:=Hh hx0;clear hW0 hb0 hx0;refine (HF.out _ HB0.out).mono ?_;rintro e w1 ⟨⟨pg,op,mn,args,ex,al⟩,ae,ne,ce,rfl,hb1⟩;have HB1:=Hh (HB0.out.trans (hb1.mono HB0.out.size));have HX1:=Hh (aB HX0.out hb1 (aA HX0.out));clear hb1;by_cases hz:k=0
 · subst hz;rw[if_pos rfl] at HTT;obtain⟨p0,p1,_⟩:=(aL HX1.out);have hl1:=aA HX1.out;go_wp2_with fail
   have HB1a:=Hh (HB1.out.alloc (o:=.cells #[pg,.int .u8 op,mn,.slice ae ne ce,ex,.bool al] 107) HB1.out.size);refine (HO.out _ HB1a.out).mono ?_;rintro e w2 ⟨v',rfl,hrow,hb2⟩;have HB2:=Hh (HB1a.out.trans (hb2.mono HB1a.out.size));obtain⟨a',c',rfl,_,_⟩:=id hrow;have HRW:=Hh hrow;clear hb2 hrow p0 p1 hl1;by_cases hn:C=[]
   · subst hn;rw[if_pos rfl] at HTT;have HB3:=Hh (HB2.out.alloc (o:=.cells #[m,.slice a' ([]:List Op3).length c'] 53) HB2.out.size);dsimp only[List.length_nil];go_wp2_with fail
     go_ret;exact⟨by rw[←HTT.out];rfl,HB3.out⟩
   · rw[if_neg hn] at HTT;obtain⟨n,hnn⟩:∃ n,C.length=n:=⟨_,rfl⟩;have hlen:((n:Int) == 0)=false:=by
      have:=Yu.2 hn
      simp;omega
     obtain⟨W1,hW1⟩:∃ W,w2.alloc (.cells #[m,.slice a' n c'] 53)=W:=⟨_,rfl⟩;have hb3:Below w2 w2 W1:=by rw[←hW1];exact br.alloc lr _
     have HB3:=Hh (HB2.out.trans (hb3.mono HB2.out.size));have HRW3:=Hh (HRW.out.below hb3);have hli:=fun W (hb:Below W1 W1 W)=>HL.out (.slice a' C.length c') W (HRW3.out.below hb);rw[hnn] at hli ⊢;have HLI:=Hh hli;have hmm:=HMM.out;have hls:(mP C).size≤1000000:=by have:=HSZ.out;have:=HCL.out;have:=HLL.out;omega
     have HW1:=Hh hW1;clear hn hnn hli hb3 hW1;go_wp2_with fail
     rw[HW1.out];have hx3:W1.heap[w2.heap.size]? = some (.cells #[m,.slice a' n c'] 53 (0,0)):=by rw[←HW1.out];exact aF _ _
     obtain⟨p0,p1,_⟩:=aL hx3;have hl3:=aA hx3;clear hx3 HW1;refine bO kr kr ?_;repeat (go_big_quiet_step (first|exact eG (HLI.out _ (bl))))
     refine wpQuiet_nil ?_;rintro W3 ⟨p3,hW3⟩;have hb5:Below W1 W1 W3:=by rw[hW3];exact bl
     have HB5:=Hh (HB3.out.trans (hb5.mono HB3.out.size));clear hW3 p3 hb5;go_wp2_with fail
     go_ret;exact⟨by rw[←HTT.out];rfl,HB5.out⟩
 · have e0:((k:Int) != 0)=true:=by simp;omega
   rw[if_neg hz] at HTT;go_wp2_with fail
   go_ret;exact⟨by rw[←HTT.out];rfl,HB1.out.alloc HB1.out.size _⟩
theorem aKt (x:It) (vr va:Value) (B0:Nat) (w:World) (hI:ItAt B0 x vr va w) (hi:x.ins.2.length≤900∧x.ins.1.length≤1000) (hrl:x.raw.length≤100000) :
 Calls prog 33 #[itV x vr va] w fun e w'=>e=.returned (.string (dH x))∧Below w w w':=by
 have hD:=fun X (hb:Below w w X)=>aIl x.raw vr X ((Row.of_owns hI.raw).below hb) hrl;have hS:=fun X (hb:Below w w X)=>aJl x.ins.1 va x.ins.2 X (hI.args.row.row.below hb) (aHz (aKs hI.args.own) hb) hi.1 hi.2;obtain⟨ki,ra,⟨im,ia⟩,ial⟩:=x;dsimp only at hD hS;obtain⟨ar,cr,rfl⟩:=aI hI.raw;obtain⟨aa,ca,rfl⟩:=aI hI.args.own;have fin:(dR ⟨ki,ra,(im,ia),ial⟩=true∧ki=1∧ial=false)∨(dR ⟨ki,ra,(im,ia),ial⟩=false∧ki=1∧ial=true)∨(dR ⟨ki,ra,(im,ia),ial⟩=false∧((ki:Int) == 1)=false):=by
  unfold dR;by_cases h:ki=1
  · cases ial<;>simp[h]
  · exact .inr (.inr ⟨by simp[h],by simp;omega⟩)
 have HD:=Hh hD;have HS:=Hh hS;unfold dH;rw[aJz] at HS;clear hD hS hI hi hrl;dsimp only[itV,eU] at HS ⊢;rcases fin with⟨hf,rfl,rfl⟩|⟨hf,rfl,rfl⟩|⟨hf,hk1⟩;all_goals
  rw[hf];clear hf;go_enter func33,ntmps33
  go_wp2_with fail
  first
   | (with_reducible refine (HS.out _ (br.alloc lr _)).mono ?_)
   | (with_reducible refine (HD.out _ (br.alloc lr _)).mono ?_)
  rintro e w2 h2
  first
   | obtain⟨rfl,hb2⟩:=h2
     have HB2:=Hh (((Below.refl w w).alloc lr _).trans (hb2.mono (by rw[Qa];omega)));clear hb2;go_wp2_with fail
     go_ret;exact⟨rfl,HB2.out⟩
   | obtain⟨rfl,rfl⟩:=h2
     go_wp2_with fail
     go_ret;exact⟨rfl,(Below.refl w w).alloc lr _⟩
theorem aLf (l m:List Int):aBQ (l++m)=aBQ l++aBQ m:=by simp[aBQ]
theorem aLg (W:World) (t:Int):eR (W.alloc (.cells #[t] 3)) (.slice W 1 1) 1 (aBQ [t]):=.inr ⟨⟨W,0,none⟩,1,rfl,fun j u hu=>by
 rw[bD,Xb,aC (aF _ _)];match j,hu with
 | 0,hu=>simpa[aBQ] using hu⟩
theorem aMI (ad:Int) (x:It) (vr va:Value) (B0:Nat) (w:World) (hI:ItAt B0 x vr va w) (hi:x.ins.2.length≤900) (hrl:x.raw.length≤100000) :
 Calls prog 77 #[ad,itV x vr va] w fun e w'=>∃ v,e=.returned v∧w'.ownsRow w 3 1 v (aKP ad x).length (aBQ (aKP ad x))∧Below w w w':=by
 obtain⟨i0,hji,hz0,hz1,hz2⟩:=info_parts Tryz.infoInt;have hK:=fun X (hb:Below w w X)=>aLH x.ins.1 va x.ins.2 X (hI.args.row.row.below hb) (aHz (aKs hI.args.own) hb) hi;have hT:=fun X (hb:Below w w X)=>aMA ad x.ins.1 va x.ins.2 X (hI.args.row.row.below hb) (aHz (aKs hI.args.own) hb) hi;have hS:=fun X (hb:Below w w X)=>aME x.ins.1 va x.ins.2 X (hI.args.row.row.below hb) (aHz (aKs hI.args.own) hb) hi;obtain⟨R,hR⟩:∃ R,aKP ad x=R:=⟨_,rfl⟩;rw[hR];unfold aKP at hR;obtain⟨O,hO⟩:∃ O,aLl ad x=O:=⟨_,rfl⟩;obtain⟨J,hJ⟩:∃ J,aKU ad x=J:=⟨_,rfl⟩;obtain⟨L,hL⟩:∃ L,aLC x=L:=⟨_,rfl⟩;rw[hO,hJ] at hR;have hjl:-32768≤J∧J≤65535:=by
  rw[←hJ];unfold aKU;split
  · exact aMi _ _
  · omega
 unfold aLl at hO;rw[hL] at hO;unfold aKU at hJ;unfold aLC at hL;have hkl:=aNY x.ins;obtain⟨K,hKK⟩:∃ K,aKC x.ins=K:=⟨_,rfl⟩;obtain⟨T,hTT⟩:∃ T,aLb ad x.ins=T:=⟨_,rfl⟩;obtain⟨S,hSS⟩:∃ S,aLw x.ins=S:=⟨_,rfl⟩;have hxi:(x.ins.1,x.ins.2)=x.ins:=rfl;rw[hxi,hKK] at hK;rw[hxi,hTT] at hT;rw[hxi,hSS] at hS;rw[hKK,hSS] at hL;rw[hTT] at hJ;rw[hKK] at hkl;have HK:=Hh hK;have HT:=Hh hT;have HS:=Hh hS;obtain⟨ki,ra,⟨im,ia⟩,ial⟩:=x;dsimp only at *;obtain⟨ar,cr,rfl⟩:=aI hI.raw;obtain⟨aa,ca,rfl⟩:=aI hI.args.own;have HR:=Hh hR;have HO:=Hh hO;have HJ:=Hh hJ;have HL:=Hh hL;have HJL:=Hh hjl;have HKL:=Hh hkl;clear hK hT hS hR hO hJ hL hKK hTT hSS hjl hkl hI hi hxi;dsimp only[itV,eU] at *;have HB0:=Hh ((Below.refl w w).alloc (o:=.cells #[ki,.slice ar ra.length cr,im,.slice aa ia.length ca,.bool ial] 55) lr);by_cases h1:ad<0
 · obtain rfl:R=[]:=by rw[←HR.out,if_pos (.inl h1)]
   go_enter func77,ntmps77
   go_wp2_with fail
   go_ret;exact⟨_,rfl,Xa _ _ _ _,HB0.out⟩
 by_cases h2:65535<ad
 · obtain rfl:R=[]:=by rw[←HR.out,if_pos (.inr h2)]
   go_enter func77,ntmps77
   go_wp2_with fail
   go_ret;exact⟨_,rfl,Xa _ _ _ _,HB0.out⟩
 have HR3:=Hh ((if_neg (by omega:¬ (ad<0∨65535<ad))).symm.trans HR.out)
 have g1:(0:Int)≤ad:=om
 have g2:ad≤65535:=om
 have HX0:=Hh (aF w (.cells #[ki,.slice ar ra.length cr,im,.slice aa ia.length ca,.bool ial] 55));obtain⟨W0,hW0⟩:∃ W,w.alloc (.cells #[ki,.slice ar ra.length cr,im,.slice aa ia.length ca,.bool ial] 55)=W:=⟨_,rfl⟩;rw[hW0] at HB0 HX0;have HW0:=Hh hW0;clear hW0 HR;have h1':¬ ad<0:=h1;have h2':¬ 65535<ad:=h2;clear h1 h2;go_enter func77,ntmps77
 go_upto_region 7 with fail
 rw[HW0.out];clear HW0;obtain⟨⟨p0,p1,p2,p3,p4⟩,_⟩:=bJ HX0.out;have hl0:=aA HX0.out;go_upto_if 18 with fail
 go_cut [7,8] (fun t al wx=>t=.int .i64 J∧al=.bool L∧Hid (wx.heap[w.heap.size]? = some (.cells #[ki,.slice ar ra.length cr,im,.slice aa ia.length ca,.bool ial] 55 (0,0)))∧Hid (Below w w wx))
 case first =>
  by_cases hk1:ki=1
  · subst hk1;obtain rfl:T=J:=by rw[←HJ.out,if_pos rfl]
    have hl3:((decide (K=1) || decide (K=3) || decide (K=4)) && !S)=L:=by rw[←HL.out];simp
    have HL3:=Hh hl3;clear hl3 HJ HL;go_wp2_with fail
    refine (HK.out _ HB0.out).mono ?_;rintro e w1 ⟨rfl,hb1⟩;have HB1:=Hh (HB0.out.trans (hb1.mono HB0.out.size));have HX1:=Hh (aB HX0.out hb1 (aA HX0.out));clear hb1 p0 p1 p2 p3 p4 hl0;obtain⟨⟨p0,p1,p2,p3,p4⟩,_⟩:=bJ HX1.out;have hl0:=aA HX1.out;go_wp2_with fail
    refine (HT.out _ HB1.out).mono ?_;rintro e w2 ⟨rfl,hb2⟩;have HB2:=Hh (HB1.out.trans (hb2.mono HB1.out.size));have HX2:=Hh (aB HX1.out hb2 (aA HX1.out));clear hb2 p0 p1 p2 p3 p4 hl0;obtain⟨⟨p0,p1,p2,p3,p4⟩,_⟩:=bJ HX2.out;have hl0:=aA HX2.out;by_cases hk:K=1∨K=3∨K=4
    · have hl4:(!S)=L:=by
       rw[←HL3.out];rcases hk with rfl|rfl|rfl<;>simp
      have HL4:=Hh hl4;clear hl4 HL3;rcases hk with rfl|rfl|rfl;all_goals
       go_wp2_with fail
       refine (HS.out _ HB2.out).mono ?_;rintro e w3 ⟨rfl,hb3⟩;have HB3:=Hh (HB2.out.trans (hb3.mono HB2.out.size));have HX3:=Hh (aB HX2.out hb3 (aA HX2.out));clear hb3;go_wp2_with fail
       go_meet
       case rel=>exact⟨rfl,by rw[←HL4.out],HX3,HB3⟩
    · obtain rfl:false=L:=by
       rw[←HL3.out,Qg (fun h=>hk (.inl h)),Qg (fun h=>hk (.inr (.inl h))),Qg (fun h=>hk (.inr (.inr h)))];rfl
      have n1:(K == 1)=false:=by simp;omega
      have n2:(K == 3)=false:=by simp;omega
      have n3:(K == 4)=false:=by simp;omega
      clear hk HL3;go_wp2_with fail
      go_meet
      case rel=>exact⟨rfl,rfl,HX2,HB2⟩
  · obtain rfl:-1=J:=by rw[←HJ.out,if_neg hk1]
    obtain rfl:false=L:=by rw[←HL.out,Qg hk1];simp
    have hkb:((ki:Int) == 1)=false:=by simp;omega
    clear hk1;go_wp2_with fail
    go_meet
    case rel=>exact⟨rfl,rfl,HX0,HB0⟩
 case rest =>
 obtain⟨rfl,rfl,HX,HB⟩:=hcut;clear HX0 HB0 p0 p1 p2 p3 p4 hl0 HJ HL HK HT HS;obtain⟨⟨p0,p1,p2,p3,p4⟩,_⟩:=bJ HX.out;have hl0:=aA HX.out;obtain⟨D,hD⟩:∃ D,(decide (ad+(ra.length:Int)≤65535) && (decide ((ki:Int)≠4) && !L))=D:=⟨_,rfl⟩;have hOD:(if D=true then [ad+(ra.length:Int)] else [])=O:=by
  rw[←HO.out,←hD];by_cases c1:ad+(ra.length:Int)≤65535<;>by_cases c2:ki=4<;>cases L<;>simp[c1,c2]<;>(try omega)
 have hOD2:=Hh (show O=[]∨O=[ad+(ra.length:Int)] from by rw[←hOD];cases D;exact .inl rfl;exact .inr rfl)
 have HD:=Hh hD;have HOD:=Hh hOD;clear hD hOD HO;go_upto_region 12 with fail
 go_cut [57] (fun t wx=>t=.bool D∧wx=wc)
 case first =>
  by_cases c1:ad+(ra.length:Int)≤65535
  · by_cases c2:ki=4
    · obtain rfl:false=D:=by rw[←HD.out];simp[c2]
      subst c2;go_wp2_with fail
      go_meet
      case rel=>exact⟨rfl,rfl⟩
    · obtain rfl:(!L)=D:=by rw[←HD.out,Qh c1,Qh (show (ki:Int)≠4 by omega)];simp
      have k4:((ki:Int) != 4)=true:=by simp;omega
      clear c2 HD HOD;go_wp2_with fail
      go_meet
      case rel=>exact⟨rfl,rfl⟩
  · obtain rfl:false=D:=by rw[←HD.out,Qg c1];rfl
    go_wp2_with fail
    go_meet
    case rel=>exact⟨rfl,rfl⟩
 case rest =>
 obtain⟨rfl,rfl⟩:=hcut;clear HX p0 p1 p2 p3 p4 hl0;go_upto_if 57 with fail
 go_cut [5] (fun o wx=>∃ ao co,o=.slice ao O.length co∧Hid (wx.ownsRow w 3 1 (.slice ao O.length co) O.length (aBQ O))∧Hid (Below w w wx))
 case first =>
  cases D
  · obtain rfl:[]=O:=HOD.out;go_wp2_with fail
    go_meet
    case rel=>exact⟨none,0,rfl,Hh (Xa _ _ _ _),HB⟩
  · obtain rfl:[ad+(ra.length:Int)]=O:=HOD.out;have hbs:=HB.out.size;go_wp2_with (at_builtin;refine fK rfl _ _ 44 rfl w 3 i0 (.int .i64 0) 1 8 underlying44 hji hz0 hz1 hz2 rfl dc (.slice none 0 0) 0 [] rfl (Xa _ _ _ _) _ 1 (aBQ [ad+(ra.length:Int)]) rfl (aLg _ _) rfl (aCk _) dc dc (by rw[Qa];omega) ?_)
    intro v' w1 ho1 hg1 _;obtain⟨a1,c1,rfl⟩:=aI ho1;have hb1:=(HB.out.alloc (o:=.cells #[.int .i64 (ad+(ra.length:Int))] 3) hbs).grown hg1 (by rw[Qa];omega) (fun q hq=>by cases hq);have HO1:=Hh ho1;have HB1:=Hh hb1;clear ho1 hg1 hb1;go_wp2_with fail
    go_meet
    case rel=>exact⟨a1,c1,rfl,HO1,HB1⟩
 case rest =>
 obtain⟨ao,co,rfl,HOW,HB2⟩:=hcut;clear HB HOD HD;have hjl:=HJL.out;have hOs:O=[]∨∃ y,O=[y]:=by
  rcases hOD2.out with h|h
  · exact .inl h
  · exact .inr ⟨_,h⟩
 have hbs:=HB2.out.size;have hOl:O.length≤1:=by rcases hOs with rfl|⟨y,rfl⟩<;>simp
 by_cases hj:0≤J
 · by_cases hO:O=[]
   · have hr:R=O++[J]:=by rw[←HR3.out,if_pos ⟨hj,.inl hO⟩]
     have hz:((O.length:Int) == 0)=true:=by rw[hO];rfl
     have HRR:=Hh hr;clear hr hO hOs;go_wp2_with (at_builtin;refine fK rfl _ _ 44 rfl w 3 i0 (.int .i64 0) 1 8 underlying44 hji hz0 hz1 hz2 rfl dc _ _ _ rfl (bK HOW.out ((Below.refl wc wc).alloc lr _)) _ _ _ rfl (aLg _ _) rfl (aCk _) (by unfold maxLen;omega) om (by rw[Qa];omega) ?_)
     intro v' w1 ho1 hg1 _;have hb1:=(HB2.out.alloc (o:=.cells #[.int .i64 J] 3) hbs).grown hg1 (by rw[Qa];omega) (fun q hq=>(HOW.out.lt q hq).1);rw[←aLf] at ho1;have HO1:=Hh ho1;have HB1:=Hh hb1;clear ho1 hg1 hb1;go_wp2_with fail
     go_ret;exact⟨_,rfl,by rw[HRR.out,Qc];exact HO1.out,HB1.out⟩
   · obtain⟨y,hy⟩:=hOs.resolve_left hO;have hz:((O.length:Int) == 0)=false:=by rw[hy];rfl
     have hl0:(0:Int)<(O.length:Int):=by rw[hy];simp
     obtain⟨a2,c2,hv2,hcap,hh⟩:=Row.of_owns HOW.out;cases hv2
     obtain⟨g,o,rfl,hg,hcs⟩:=hh (by rw[hy];simp[aBQ]);have k0:wc.cell? ⟨g,o,none⟩=some (.int .i64 y):=by
      have:=hcs 0 (by rw[hy];simp[aBQ])
      rw[Xu] at this;rw[this,hy];rfl
     have hcc:(O.length:Int)≤(co:Int):=om
     by_cases hjy:y=J
     · have hr:R=O:=by rw[←HR3.out,if_neg];rintro⟨_,h|h⟩;exact hO h;rw[hy] at h;exact h (by rw[←hjy];rfl)
       have HRR:=Hh hr;have hne:(y != J)=false:=by simp[hjy]
       clear hr hy hO hOs hcs hh hjy;go_wp2_with fail
       go_ret;exact⟨_,rfl,by rw[HRR.out];exact HOW.out,HB2.out⟩
     · have hr:R=O++[J]:=by rw[←HR3.out,if_pos ⟨hj,.inr (by rw[hy];intro h;exact hjy (by simpa using h))⟩]
       have HRR:=Hh hr;have hne:(y != J)=true:=by simp[hjy]
       clear hr hy hO hOs hcs hh hjy;go_wp2_with (at_builtin;refine fK rfl _ _ 44 rfl w 3 i0 (.int .i64 0) 1 8 underlying44 hji hz0 hz1 hz2 rfl dc _ _ _ rfl (bK HOW.out ((Below.refl wc wc).alloc lr _)) _ _ _ rfl (aLg _ _) rfl (aCk _) (by unfold maxLen;omega) om (by rw[Qa];omega) ?_)
       intro v' w1 ho1 hg1 _;have hb1:=(HB2.out.alloc (o:=.cells #[.int .i64 J] 3) hbs).grown hg1 (by rw[Qa];omega) (fun q hq=>(HOW.out.lt q hq).1);rw[←aLf] at ho1;have HO1:=Hh ho1;have HB1:=Hh hb1;clear ho1 hg1 hb1;go_wp2_with fail
       go_ret;exact⟨_,rfl,by rw[HRR.out,Qc];exact HO1.out,HB1.out⟩
 · obtain rfl:O=R:=by rw[←HR3.out,if_neg (fun h=>hj h.1)]
   go_wp2_with fail
   go_ret;exact⟨_,rfl,HOW.out,HB2.out⟩
theorem aMK (a:Option Addr) (c:Nat) (x:Int) (w:World):Calls prog 191 #[.slice a 0 c,x] w fun e w'=>e=.returned (.int .i64 (-1))∧w=w':=by
 go_enter func191,ntmps191
 go_wp2_with fail
 go_loopw [8] (fun i wr=>wr=w∧i=.int .i64 0) (fun _ _=>0)
 case atStart=>exact⟨rfl,rfl⟩
 case round =>
  obtain⟨rfl,rfl⟩:=hrel;go_wp2_with fail
  go_ret;exact⟨rfl,rfl⟩
theorem aLT (ks:List Int) (v:Value) (x:Int) (w:World) (hr:Row w v ks.length (aBQ ks)) (hl:ks.length≤1000) :
 Calls prog 150 #[v,x] w fun e w'=>e=.returned (.bool (decide (x∈ks)))∧w=w':=by
 by_cases hne:ks=[]
 · subst hne;obtain⟨a,c,rfl,_,_⟩:=hr;have HI:=Hh (aMK a c x w);dsimp only[List.length_nil];rw[Qg sm];go_enter func150,ntmps150
   go_wp2_with fail
   refine HI.out.mono ?_;rintro e w1 ⟨rfl,rfl⟩;go_wp2_with fail
   go_ret;exact⟨rfl,rfl⟩
 · exact (zX ks v x w hr hne hl).mono fun _ _ h=>⟨h.1,h.2.symm⟩
def aMu (a:Int) (x:It):Bool :=
 let g:=decide ((x.kind:Int)≠4) && decide (a+(x.raw.length:Int)<65536)
 if x.kind=1 then (if aLc x.ins=1∨aLc x.ins=3∨aLc x.ins=4 then g && aLF x.ins else g) else g
def aLx (a:Int) (x:It):Int × Bool:=if x.kind=1 then aLn a x.ins else (0,false)
def aLG (a:Int) (x:It):List Int :=
 if a<0∨65535<a then [] else
  let out:=if aMu a x=true then [a+(x.raw.length:Int)] else []
  if (aLx a x).2=true∧(aLx a x).1∉out then out++[(aLx a x).1] else out
theorem aNi (ad:Int) (x:It) (vr va:Value) (B0:Nat) (w:World) (hT:TabsA w) (hI:ItAt B0 x vr va w) (hi:x.ins.2.length≤900) (hrl:x.raw.length≤100000) :
 Calls prog 105 #[ad,itV x vr va] w fun e w'=>∃ v,e=.returned v∧w'.ownsRow w 3 1 v (aLG ad x).length (aBQ (aLG ad x))∧Below w w w':=by
 obtain⟨i0,hji,hz0,hz1,hz2⟩:=info_parts Tryz.infoInt;have hK:=fun X (hb:Below w w X)=>aLW x.ins.1 va x.ins.2 X (hT.below hb) (hI.args.row.row.below hb) hi;have hTG:=fun X (hb:Below w w X)=>aNc ad x.ins.1 va x.ins.2 X (hT.below hb) (hI.args.row.row.below hb) hi;have hS:=fun X (hb:Below w w X)=>aNf x.ins.1 va x.ins.2 X (hT.below hb) (hI.args.row.row.below hb) hi;obtain⟨R,hR⟩:∃ R,aLG ad x=R:=⟨_,rfl⟩;rw[hR];unfold aLG at hR;obtain⟨D,hD⟩:∃ D,aMu ad x=D:=⟨_,rfl⟩;obtain⟨⟨T,J⟩,hJ⟩:∃ J,aLx ad x=J:=⟨_,rfl⟩;rw[hD,hJ] at hR;unfold aMu at hD;unfold aLx at hJ;dsimp only at hR hD;obtain⟨K,hKK⟩:∃ K,aLc x.ins=K:=⟨_,rfl⟩;obtain⟨TG,hTT⟩:∃ T,aLn ad x.ins=T:=⟨_,rfl⟩;obtain⟨S,hSS⟩:∃ S,aLF x.ins=S:=⟨_,rfl⟩;have hxi:(x.ins.1,x.ins.2)=x.ins:=rfl;rw[hxi,hKK] at hK;rw[hxi,hTT] at hTG;rw[hxi,hSS] at hS;rw[hKK,hSS] at hD;rw[hTT] at hJ;have HK:=Hh hK;have HT:=Hh hTG;have HS:=Hh hS;obtain⟨ki,ra,⟨im,ia⟩,ial⟩:=x;dsimp only at *;obtain⟨D0,hD0⟩:∃ D0,(decide ((ki:Int)≠4) && decide (ad+(ra.length:Int)<65536))=D0:=⟨_,rfl⟩;rw[hD0] at hD;obtain⟨ar,cr,rfl⟩:=aI hI.raw;obtain⟨aa,ca,rfl⟩:=aI hI.args.own;have HR:=Hh hR;have HJ:=Hh hJ;have HD:=Hh hD;have HD0:=Hh hD0;clear hK hTG hS hR hJ hD hD0 hKK hTT hSS hI hi hxi hT;dsimp only[itV,eU] at *;obtain⟨W0,hW0⟩:∃ W,(w.alloc (.cells #[ki,.slice ar ra.length cr,im,.slice aa ia.length ca,.bool ial] 55)).alloc (.cells #[ad] 3)=W:=⟨_,rfl⟩;have hb0:Below w w W0:=by rw[←hW0];exact bl
 have hx0:W0.heap[w.heap.size]? = some (.cells #[ki,.slice ar ra.length cr,im,.slice aa ia.length ca,.bool ial] 55 (0,0)):=by rw[←hW0];exact aE (aF _ _)
 have hc0:W0.cell? ⟨w+1,0,none⟩=some (.int .i64 ad):=by
  rw[←hW0]
  have:=aC (aF (w.alloc (.cells #[ki,.slice ar ra.length cr,im,.slice aa ia.length ca,.bool ial] 55)) (.cells #[ad] 3)) 0
  rw[Qa] at this;exact this
 have HFT:=Hh (jS 0 65535 ad (w.heap.size+1) W0 hc0);have HB0:=Hh hb0;have HX0:=Hh hx0;have HW0:=Hh hW0;clear hb0 hx0 hc0 hW0;by_cases hin:¬ (0≤ad∧ad≤65535)
 · obtain rfl:[]=R:=by rw[←HR.out,if_pos om]
   have hd:(decide (0≤ad) && decide (ad≤65535))=false:=by
    rw[Bool.and_eq_false_iff];by_cases h:0≤ad
    · exact .inr (Qg (fun h2=>hin ⟨h,h2⟩))
    · exact .inl (Qg h)
   rw[hd] at HFT;clear hin hd;go_enter func105,ntmps105
   go_wp2_with fail
   rw[HW0.out];refine HFT.out.mono ?_;rintro e w2 ⟨rfl,rfl⟩;go_wp2_with fail
   go_ret;exact⟨_,rfl,Xa _ _ _ _,HB0.out⟩
 obtain⟨g1,g2⟩:=Classical.not_not.1 hin;clear hin;rw[Qh g1,Qh g2] at HFT;have HR3:=Hh ((if_neg (by omega:¬ (ad<0∨65535<ad))).symm.trans HR.out)
 clear HR;go_enter func105,ntmps105
 go_wp2_with fail
 rw[HW0.out];refine HFT.out.mono ?_;rintro e w2 ⟨rfl,rfl⟩;clear HW0 HFT;obtain⟨⟨p0,p1,p2,p3,p4⟩,_⟩:=bJ HX0.out;have hl0:=aA HX0.out;go_upto_region 5 with fail
 go_cut [7] (fun t wx=>t=.bool D0∧wx=W0)
 case first =>
  by_cases c2:ki=4
  · obtain rfl:false=D0:=by rw[←HD0.out];simp[c2]
    subst c2;go_wp2_with fail
    go_meet
    case rel=>exact⟨rfl,rfl⟩
  · have k4:((ki:Int) != 4)=true:=by simp;omega
    have hd:decide (ad+(ra.length:Int)<65536)=D0:=by rw[←HD0.out,Qh (show (ki:Int)≠4 by omega),Yp]
    have HDD:=Hh hd;clear c2 hd;go_wp2_with fail
    go_meet
    case rel=>exact⟨by rw[←HDD.out],rfl⟩
 case rest =>
 obtain⟨rfl,rfl⟩:=hcut;go_upto_if 28 with fail
 go_cut [7,8,9] (fun g t j wx=>g=.bool D∧t=.int .i64 T∧j=.bool J∧Hid (Below w w wx))
 case first =>
  by_cases hk1:ki=1
  · subst hk1;obtain rfl:TG=(T,J):=by rw[←HJ.out,if_pos rfl]
    have hd1:(if K=1∨K=3∨K=4 then D0 && S else D0)=D:=by rw[←HD.out,if_pos rfl]
    have HD1:=Hh hd1;clear HD HJ hd1;go_wp2_with fail
    refine (HT.out _ HB0.out).mono ?_;rintro e w3 ⟨rfl,hb3⟩;have HB3:=Hh (HB0.out.trans (hb3.mono HB0.out.size));have HX3:=Hh (aB HX0.out hb3 (aA HX0.out));clear hb3 p0 p1 p2 p3 p4 hl0;obtain⟨⟨p0,p1,p2,p3,p4⟩,_⟩:=bJ HX3.out;have hl0:=aA HX3.out;go_wp2_with fail
    refine (HK.out _ HB3.out).mono ?_;rintro e w4 ⟨rfl,hb4⟩;have HB4:=Hh (HB3.out.trans (hb4.mono HB3.out.size));have HX4:=Hh (aB HX3.out hb4 (aA HX3.out));clear hb4 p0 p1 p2 p3 p4 hl0;obtain⟨⟨p0,p1,p2,p3,p4⟩,_⟩:=bJ HX4.out;have hl0:=aA HX4.out;by_cases hk:K=1∨K=3∨K=4
    · have hd2:(D0 && S)=D:=by rw[←HD1.out,if_pos hk]
      have HD2:=Hh hd2;clear hd2 HD1;cases D0
      · obtain rfl:false=D:=HD2.out;rcases hk with rfl|rfl|rfl;all_goals
         go_wp2_with fail
         go_meet
         case rel=>exact⟨rfl,rfl,rfl,HB4⟩
      · obtain rfl:S=D:=HD2.out;rcases hk with rfl|rfl|rfl;all_goals
         go_wp2_with fail
         refine (HS.out _ HB4.out).mono ?_;rintro e w5 ⟨rfl,hb5⟩;have HB5:=Hh (HB4.out.trans (hb5.mono HB4.out.size));clear hb5;go_wp2_with fail
         go_meet
         case rel=>exact⟨rfl,rfl,rfl,HB5⟩
    · obtain rfl:D0=D:=by rw[←HD1.out,if_neg hk]
      have n1:(K == 1)=false:=by simp;omega
      have n2:(K == 3)=false:=by simp;omega
      have n3:(K == 4)=false:=by simp;omega
      clear hk HD1;go_wp2_with fail
      go_meet
      case rel=>exact⟨rfl,rfl,rfl,HB4⟩
  · have hj:=HJ.out;rw[if_neg hk1] at hj;cases hj
    obtain rfl:D0=D:=by rw[←HD.out,if_neg hk1]
    have hkb:((ki:Int) == 1)=false:=by simp;omega
    clear hk1;go_wp2_with fail
    go_meet
    case rel=>exact⟨rfl,rfl,rfl,HB0⟩
 case rest =>
 obtain⟨rfl,rfl,rfl,HB⟩:=hcut;clear HX0 HB0 p0 p1 p2 p3 p4 hl0 HJ HD HD0 HK HT HS;obtain⟨O,hO⟩:∃ O,(if D=true then [ad+(ra.length:Int)] else [])=O:=⟨_,rfl⟩
 have hr3:=HR3.out;rw[hO] at hr3;have HR4:=Hh hr3;have HOD:=Hh hO;have hOl:O.length≤1:=by rw[←hO];split<;>simp
 clear hr3 hO HR3;go_upto_if 49 with fail
 go_cut [5] (fun o wx=>∃ ao co,o=.slice ao O.length co∧Hid (wx.ownsRow w 3 1 (.slice ao O.length co) O.length (aBQ O))∧Hid (Below w w wx))
 case first =>
  cases D
  · obtain rfl:[]=O:=HOD.out;go_wp2_with fail
    go_meet
    case rel=>exact⟨none,0,rfl,Hh (Xa _ _ _ _),HB⟩
  · obtain rfl:[ad+(ra.length:Int)]=O:=HOD.out;have hbs:=HB.out.size;go_wp2_with (at_builtin;refine fK rfl _ _ 44 rfl w 3 i0 (.int .i64 0) 1 8 underlying44 hji hz0 hz1 hz2 rfl dc (.slice none 0 0) 0 [] rfl (Xa _ _ _ _) _ 1 (aBQ [ad+(ra.length:Int)]) rfl (aLg _ _) rfl (aCk _) dc dc (by rw[Qa];omega) ?_)
    intro v' w1 ho1 hg1 _;obtain⟨a1,c1,rfl⟩:=aI ho1;have hb1:=(HB.out.alloc (o:=.cells #[.int .i64 (ad+(ra.length:Int))] 3) hbs).grown hg1 (by rw[Qa];omega) (fun q hq=>by cases hq);have HO1:=Hh ho1;have HB1:=Hh hb1;clear ho1 hg1 hb1;go_wp2_with fail
    go_meet
    case rel=>exact⟨a1,c1,rfl,HO1,HB1⟩
 case rest =>
 obtain⟨ao,co,rfl,HOW,HB2⟩:=hcut;clear HB HOD;have hbs:=HB2.out.size;have hcon:=aLT O (.slice ao O.length co) T wc (Row.of_owns HOW.out) om;cases J
 · obtain rfl:O=R:=by rw[←HR4.out,if_neg];simp
   clear hcon;go_wp2_with fail
   go_ret;exact⟨_,rfl,HOW.out,HB2.out⟩
 · have HCON:=Hh hcon;clear hcon;by_cases hm:T∈O
   · obtain rfl:O=R:=by rw[←HR4.out,if_neg];simp[hm]
     rw[Qh hm] at HCON;clear hm;go_wp2_with fail
     refine HCON.out.mono ?_;rintro e w3 ⟨rfl,rfl⟩;go_wp2_with fail
     go_ret;exact⟨_,rfl,HOW.out,HB2.out⟩
   · have hr:R=O++[T]:=by rw[←HR4.out,if_pos ⟨rfl,hm⟩]
     have HRR:=Hh hr;rw[Qg hm] at HCON;clear hm hr;go_wp2_with fail
     refine HCON.out.mono ?_;rintro e w3 ⟨rfl,rfl⟩;go_wp2_with (at_builtin;refine fK rfl _ _ 44 rfl w 3 i0 (.int .i64 0) 1 8 underlying44 hji hz0 hz1 hz2 rfl dc _ _ _ rfl (bK HOW.out ((Below.refl wc wc).alloc lr _)) _ _ _ rfl (aLg _ _) rfl (aCk _) (by unfold maxLen;omega) om (by rw[Qa];omega) ?_)
     intro v' w1 ho1 hg1 _;have hb1:=(HB2.out.alloc (o:=.cells #[.int .i64 T] 3) hbs).grown hg1 (by rw[Qa];omega) (fun q hq=>(HOW.out.lt q hq).1);rw[←aLf] at ho1;have HO1:=Hh ho1;have HB1:=Hh hb1;clear ho1 hg1 hb1;go_wp2_with fail
     go_ret;exact⟨_,rfl,by rw[HRR.out,Qc];exact HO1.out,HB1.out⟩
end
section
open Go.RowKit Go.Sort
theorem aLk {f:Ent→Bool} {c:aY}:∀ (l:List Ent) (code:Int),code≠0→(kQ f c l code).2=0→∃ e∈l,cT e c=true∧f e=true
 | [],code,h,h2=>absurd h2 h
 | e::l,code,h,h2=>by
   rw[kQ] at h2;split at h2
   · obtain⟨x,hx,h3⟩:=aLk l code h h2;exact⟨x,Qv _ hx,h3⟩
   · rename_i ha;split at h2
     · rename_i hf;exact⟨e,Qq,by revert ha;cases cT e c<;>simp,hf⟩
     · obtain⟨x,hx,h3⟩:=aLk l 2 dc h2;exact⟨x,Qv _ hx,h3⟩
theorem aNj {i:aY} (h:(aHx i).2=0):∃ p op e,p<7∧op<256∧(atP p op).1=some e∧cT e (bV i)=true∧aHn e (bV i)=true:=by
 unfold aHx at h;split at h
 · unfold aIb at h;obtain⟨e,he,h1,h2⟩:=aLk _ 11 dc h;obtain⟨p,hp,hm⟩:=Zq.1 he;unfold aHg at hm;obtain⟨op,ho,hoe⟩:=List.mem_filterMap.1 hm;refine⟨p,op,e,?_,Yn.1 ho,hoe,h1,h2⟩;unfold aHe at hp;split at hp<;>(simp at hp;omega)
 · rename_i hc;exact absurd h hc
def aKV (l:List Op3) (k:Int):Bool:=l.any fun o=>decide (o.1=k)
def aMr (e:Ent):Bool :=
 (!decide (e.mn=wJP) || (aKV e.args 4 == !aKV e.args 6)) && (!(decide (e.mn=wJR) || decide (e.mn=aLj)) || aKV e.args 10) && (!(decide (e.mn=aMg) || decide (e.mn=aNo)) || aKV e.args 6) &&
 (List.range 4).all fun k=>!decide ((e.args.getD k (0,0,0)).1=6) || ((decide (aV e k=0) && decide (0≤cX e.args k)) || decide (aV e k=110) || decide (aV e k=119))
def aOS (p op:Nat):Bool:=match (atP p op).1 with|some e=>aMr e && decide (e.args.length≤3)|none=>true
theorem aOR:∀ p:Fin 7,∀ op:Fin 256,aOS p.val op.val=true:=by decide +kernel
theorem aLv {i:aY} (h:(aHx i).2=0):∃ e,aMr e=true∧e.args.length≤3∧cT e (bV i)=true∧aHn e (bV i)=true:=by
 obtain⟨p,op,e,hp,ho,he,h1,h2⟩:=aNj h;have hk:=aOR ⟨p,hp⟩ ⟨op,ho⟩;unfold aOS at hk;dsimp only at hk;rw[he] at hk;simp only[Qe,Qf] at hk;exact⟨e,hk.1,hk.2,h1,h2⟩
theorem aKJ:∀ {l m:List Op3} (k:Int),kB l=kB m→aKV l k=aKV m k
 | [],[],_,_=>rfl
 | [],_::_,_,h=>by simp[kB] at h
 | _::_,[],_,h=>by simp[kB] at h
 | x::l,y::m,k,h=>by
   simp only[kB,Xt,List.cons.injEq,Prod.mk.injEq] at h
   have:=aKJ (l:=l) (m:=m) k h.2
   unfold aKV at this ⊢;rw[List.any_cons,List.any_cons,h.1.1,this]
theorem aOd (l:List Op3) (k:Int):(ofF l k).isSome=aKV l k:=by
 unfold ofF aKV;rw[Yl,List.find?_isSome];simp
theorem aKT {i:aY} (h:(aHx i).2=0) (k:Int):(aKG i k).isSome=aKV (bV i).2 k:=by
 rw[←aKX,aOd];unfold aKE;rw[if_pos h]
theorem aLO (i:aY):(bV i).1=i.1:=rfl
theorem aMX (i:aY):aLc i=aKC i:=by
 unfold aLc aKC;by_cases h:(aHx i).2=0
 · rw[if_neg (c:=(aHx i).2≠0) (by simpa using h)];have hl:(aKE i).1=i.1:=by unfold aKE;rw[if_pos h];rfl
   rw[hl];obtain⟨e,h1,_,h3,_⟩:=aLv h;unfold cT at h3;simp only[Qe,Qf] at h3;have hj:i.1=wJP→aKV (bV i).2 4=!aKV (bV i).2 6:=fun hm=>by
    unfold aMr at h1;simp only[Qe] at h1;have h4:=h1.1.1.1;rw[h3.1,aLO,Qh hm,Bool.not_true,Bool.false_or,Yq,aKJ 4 h3.2,aKJ 6 h3.2] at h4;exact h4
   by_cases hm:i.1=wJP
   · have e1:¬ i.1=wJR:=by rw[hm];decide
     have e2:¬ i.1=aLj:=by rw[hm];decide
     rw[if_pos hm,if_neg e1,if_neg e2,if_pos hm,aKT h,aKT h,hj hm];cases aKV (bV i).2 6<;>rfl
   · rw[if_neg hm,if_neg hm]
 · rw[if_pos (c:=(aHx i).2≠0) h];have hl:(aKE i).1=[]:=by unfold aKE;rw[if_neg h]
   rw[hl];rfl
theorem aOm (i:aY):aLF i=aLw i:=by
 unfold aLF aLw;by_cases h:(aHx i).2=0
 · have hl:(aKE i).1=i.1:=by unfold aKE;rw[if_pos h];rfl
   rw[hl,Qh h,Yp]
 · have hl:(aKE i).1=[]:=by unfold aKE;rw[if_neg h]
   have ha:aKG i 8=none:=by unfold aKG;rw[if_neg h]
   rw[hl,ha,Qg h];rfl
theorem aMM {i:aY} {o:Op3} (h:(aHx i).2=0) (ho:aKG i 6=some o):0≤o.2.2:=by
 obtain⟨e,h1,hl3,h3,hf⟩:=aLv h;unfold aKG at ho;rw[if_pos h] at ho;have hk6:o.1=6:=by simpa using List.find?_some ho
 obtain⟨k,hk,hko⟩:=List.getElem_of_mem (Za ho);unfold cT at h3;simp only[Qe,Qf] at h3;have hlen:e.args.length=(bV i).2.length:=by simpa[kB] using congrArg List.length h3.2
 unfold aHn at hf;rw[Qe,Xk] at hf;have hok:=hf.2 k (Yn.2 hk);have hn:cX (bV i).2 k=o.2.2:=by unfold cX;rw[Xh,Qb hk,hko];rfl
 have he6:(e.args.getD k (0,0,0)).1=6:=by
  have h5:(kB e.args)[k]? = (kB (bV i).2)[k]? := by rw[h3.2]
  unfold kB at h5;rw[Ya,Ya,Qb hk,Qb om,hko] at h5;simp only[Yx,Option.some.injEq,Prod.mk.injEq] at h5;rw[Xh,Qb om];exact h5.1.trans hk6
 unfold aMr at h1;rw[Qe,Xk] at h1;have hg:=h1.2 k (Yn.2 om);rw[Qh he6,Bool.not_true,Bool.false_or] at hg;simp only[Zs,Qe,Qf] at hg;unfold okR at hok;rw[hn] at hok;rcases hg with (⟨h0,h2⟩|h2)|h2
 · rw[if_pos h0,Qf] at hok;omega
 · rw[if_neg (by rw[h2];decide),h2] at hok;simp[bM] at hok
   exact hok.1
 · rw[if_neg (by rw[h2];decide),h2] at hok;simp[bM] at hok
   exact hok.1
theorem aNZ {i:aY} (h:aKC i=1∨aKC i=2):(aHx i).2=0∧((aKG i 10).isSome=true∨(aKG i 6).isSome=true):=by
 unfold aKC at h;split at h
 · omega
 · rename_i hz;have hz:(aHx i).2=0:=Classical.not_not.1 hz;refine⟨hz,?_⟩;obtain⟨e,h1,_,h3,_⟩:=aLv hz;unfold cT at h3;simp only[Qe,Qf] at h3;unfold aMr at h1;simp only[Qe] at h1;obtain⟨⟨⟨_,h5⟩,h6⟩,_⟩:=h1;rw[h3.1,aLO,aKJ 10 h3.2] at h5;rw[h3.1,aLO,aKJ 6 h3.2] at h6;rw[aKT hz,aKT hz];split at h
   · rename_i hm;left
     rw[Qh hm] at h5;simpa using h5
   · split at h
     · rename_i hm;left
       rw[Qh hm] at h5;simpa using h5
     · split at h
       · split at h
         · rename_i hs;right
           rw[aKT hz] at hs;exact hs
         · omega
       · split at h
         · rename_i hm;right
           rw[Qh hm] at h6;simpa using h6
         · split at h
           · rename_i hm;right
             rw[Qh hm] at h6;simpa using h6
           · (repeat' split at h)<;>omega
theorem aOk (a:Int) (i:aY):(aLn a i=(0,false)∧aLb a i=-1)∨(0≤aLb a i∧aLn a i=(aLb a i,true)):=by
 unfold aLn aLb;rw[aMX];by_cases h:a<0∨65535<a∨(aKC i≠1∧aKC i≠2)
 · rw[if_pos h,if_pos h];exact .inl ⟨rfl,rfl⟩
 · rw[if_neg h,if_neg h];obtain⟨hz,ha⟩:=aNZ (i:=i) om;right
   cases h10:aKG i 10 with
   | some o =>
     show 0≤(a+2+o.2.2+65536)%65536∧((a+2+o.2.2)%65536,true)=((a+2+o.2.2+65536)%65536,true)
     exact⟨om,by rw[show (a+2+o.2.2)%65536=(a+2+o.2.2+65536)%65536 by omega]⟩
   | none =>
     rw[h10] at ha;simp only[Option.isSome_none,Bool.false_eq_true,false_or] at ha;obtain⟨o,ho⟩:=Ys.1 ha;simp only[Option.map_none,Zt,ho,Yy,Option.isSome_some];exact⟨aMM hz ho,by first|rfl|trivial⟩
theorem aOt (a:Int) (x:It):aLG a x=aKP a x:=by
 unfold aLG aKP;by_cases h:a<0∨65535<a
 · rw[if_pos h,if_pos h]
 · rw[if_neg h,if_neg h];have ho:(if aMu a x=true then [a+(x.raw.length:Int)] else [])=aLl a x:=by
    unfold aMu aLl aLC;dsimp only;rw[aMX,aOm];by_cases h1:x.kind=1
    · rw[if_pos h1,Qh h1,Yp];have h4:decide ((x.kind:Int)≠4)=true:=by simp;omega
      rw[h4,Yp];by_cases hk:aKC x.ins=1∨aKC x.ins=3∨aKC x.ins=4
      · have hkb:(decide (aKC x.ins=1) || decide (aKC x.ins=3) || decide (aKC x.ins=4))=true:=by rcases hk with h|h|h<;>simp[h]
        rw[if_pos hk,hkb,Yp];cases aLw x.ins
        · simp
        · by_cases hl:a+(x.raw.length:Int)<65536
          · rw[if_pos (by simp[hl]),if_pos ⟨om,om,rfl⟩]
          · rw[if_neg (by simp[hl]),if_neg (by intro h;exact hl om)]
      · have hkb:(decide (aKC x.ins=1) || decide (aKC x.ins=3) || decide (aKC x.ins=4))=false:=by
         rw[Qg (fun h=>hk (.inl h)),Qg (fun h=>hk (.inr (.inl h))),Qg (fun h=>hk (.inr (.inr h)))];rfl
        rw[if_neg hk,hkb,Zp];by_cases hl:a+(x.raw.length:Int)<65536
        · rw[Qh hl,if_pos rfl,if_pos ⟨om,om,rfl⟩]
        · rw[Qg hl,if_neg sm,if_neg (by intro h;exact hl om)]
    · rw[if_neg h1,Qg h1,Zp,Zp];by_cases h4:x.kind=4
      · rw[Qg (by simp[h4]),Zp,if_neg sm,if_neg (by intro h;exact h.2.1 h4)]
      · rw[Qh (show (x.kind:Int)≠4 by omega),Yp]
        by_cases hl:a+(x.raw.length:Int)<65536
        · rw[Qh hl,if_pos rfl,if_pos ⟨om,h4,rfl⟩]
        · rw[Qg hl,if_neg sm,if_neg (by intro h;exact hl om)]
   dsimp only;rw[ho];have hl1:aLl a x=[]∨∃ y,aLl a x=[y]:=by
    unfold aLl;split
    · exact .inr ⟨_,rfl⟩
    · exact .inl rfl
   have hj:(aLx a x=(0,false)∧aKU a x=-1)∨(0≤aKU a x∧aLx a x=(aKU a x,true)):=by
    unfold aLx aKU;by_cases h1:x.kind=1
    · rw[if_pos h1,if_pos h1];exact aOk a x.ins
    · rw[if_neg h1,if_neg h1];exact .inl ⟨rfl,rfl⟩
   rcases hj with⟨h1,h2⟩|⟨h1,h2⟩
   · rw[h1,h2,if_neg sm,if_neg om]
   · rw[h2];dsimp only;rcases hl1 with h3|⟨y,h3⟩
     · rw[h3,if_pos ⟨rfl,by simp⟩,if_pos ⟨h1,.inl rfl⟩]
     · rw[h3];by_cases hy:aKU a x=y
       · rw[if_neg (by simp[hy]),if_neg (by simp[hy])]
       · rw[if_pos ⟨rfl,by simpa using hy⟩,if_pos ⟨h1,.inr (by simpa using fun h=>hy h.symm)⟩]
end
end Go.Proofs.YtoigglljnklhlaaGreatDoor
