/- Joined. -/
import Derived.Test.YtoigglljnklhlaaGreatDoorD32
import Derived.Test.YtoigglljnklhlaaGreatDoorD42
set_option maxHeartbeats 8000000
set_option maxRecDepth 100000
namespace Go.Proofs.YtoigglljnklhlaaGreatDoor
open Go.RowKit Go.Sort
end Go.Proofs.YtoigglljnklhlaaGreatDoor
namespace Go.Proofs.YtoigglljnklhlaaGreatDoor
open Go.RowKit Go.Sort
open Go.Proofs.Tryz
theorem aBN (b:Nat) (C:List Cl) (k:Int) (w:World) (hI:ImgAt b C w) (hTB:TabB w) (hT:∀ W,Below w.heap.size w W→TabsA W) (hn:C.length≤60000) :
 Calls prog 11 #[.pointer (some ⟨b,0,none⟩),.int .i64 k] w fun e w'=>(k<0∨((aS C).length:Int)≤k→e=.returned (.tuple #[.slice none 0 0,.int .i64 0,.bool false])) ∧
  (∀ r:Rn,0≤k→(aS C)[k.toNat]? = some r→∃ v its,e=.returned (.tuple #[v,.int .i64 (r.1:Nat),.bool true])∧its.map Prod.fst=dI r.2∧ItsAt w' w.heap.size v its)∧Below w.heap.size w w':=by
 have HRN:=Hh (xW b C w hI hTB hn);have hrl:=fun r (hr:r∈aS C)=>Nat.le_trans (Bg hr) hn;have HRL:=Hh hrl;have hrc:=Nat.le_trans (iH C) hn;have HT:=Hh hT;generalize aS C=R at *;clear hI hTB hT hrl;by_cases hk0:k<0
 · have hkb:(decide (k<0))=true:=decide_eq_true hk0;have HK:=Hh hk0;clear hk0;go_enter func11,ntmps11
   go_wp2_with fail
   (with_reducible refine HRN.out.mono ?_);rintro e w1 ⟨u,rs,rfl,hrs,hrows,hb1⟩;obtain⟨av,cv,rfl⟩:=aI hrows.own;have HB1:=Hh hb1;clear hrs hrows hb1;go_wp2_with fail
   go_ret3;exact⟨fun _=>rfl,fun r h0=>absurd HK.out om,HB1.out⟩
 · by_cases hk1:(R.length:Int)≤k
   · have hkb:(decide (k<0))=false:=decide_eq_false hk0;have HK:=Hh hk1;have HK0:=Hh hk0;clear hk0;go_enter func11,ntmps11
     go_wp2_with fail
     (with_reducible refine HRN.out.mono ?_);rintro e w1 ⟨u,rs,rfl,hrs,hrows,hb1⟩;obtain⟨av,cv,rfl⟩:=aI hrows.own;have hl:(rs.length:Int)≤k:=by rw[←hrs,List.length_map] at hk1;exact hk1
     have HB1:=Hh hb1;clear hrs hrows hb1 hk1;go_wp2_with fail
     go_ret3;refine⟨fun _=>rfl,fun r h0 h1=>?_,HB1.out⟩;have h2:=(List.getElem?_eq_some_iff.1 h1).1
     have:=HK.out
     omega
   · obtain⟨i,rfl⟩:∃ i:Nat,k=i:=⟨k.toNat,om⟩
     have hkb:(decide ((i:Int)<0))=false:=decide_eq_false hk0;have hi:i<R.length:=om
     have HK:=Hh hi;clear hk0 hk1 hi;go_enter func11,ntmps11
     go_wp2_with fail
     (with_reducible refine HRN.out.mono ?_);rintro e w1 ⟨u,rs,rfl,hrs,hrows,hb1⟩;have hlr:rs.length=R.length:=by rw[←hrs,List.length_map]
     have hlt:i<rs.length:=by have:=HK.out;omega
     obtain⟨x,hx⟩:∃ x,rs[i]? = some x:=⟨_,List.getElem?_eq_getElem hlt⟩;obtain⟨av,cv,rfl,hcv,hh⟩:=hrows.get;obtain⟨g,o,rfl,_,hg,hcs⟩:=hh (by rintro rfl;exact absurd hlt (Nat.not_lt_zero _))
     obtain⟨k0,k1⟩:=hcs i x hx;have hxo:=hrows.has x (List.mem_of_getElem? hx);have hRj:R[i]? = some x.1:=by rw[←hrs,List.getElem?_map,hx];rfl
     have hbl:=HRL.out x.1 (List.mem_of_getElem? hRj);obtain⟨⟨ad,bs⟩,vb⟩:=x;dsimp only at k0 k1 hxo hbl hRj;obtain⟨ab,cb,rfl⟩:=aI hxo;have HDC:=Hh (fun W (hb:Below w1.heap.size w1 W)=>Dg bs (.slice ab bs.length cb) W ((Row.of_owns hxo).below hb) om (fun W' hb'=>HT.out W' (hb1.trans ((hb.trans (hb'.mono hb.size)).mono hb1.size))));have HKC:=Hh (fun W (hb:Below w1.heap.size w1 W)=>And.intro ((hb.cell (p:=⟨g,o+i*2,none⟩) hg).trans k0) (And.intro ((hb.cell (p:=⟨g,o+i*2+1,none⟩) hg).trans k1) (Nat.lt_of_lt_of_le hg hb.size)));have HRJ:=Hh hRj;have HB1:=Hh hb1;have hi0:(0:Int)≤(i:Int):=om
     have hi1:(i:Int)<(rs.length:Int):=om
     have hi2:decide ((rs.length:Int)≤(i:Int))=false:=by simp;omega
     have hcv1:(rs.length:Int)≤(cv:Int):=om
     clear hh hcs hxo hrs hrows hb1 hlr hbl hRj hx hrc;go_wp2_with fail
     obtain⟨k0,k1,hgw⟩:=HKC.out w1 br;have hdr:Below w1.heap.size w1 w1.drew:=Below.drew br;go_region_held3 (fun W=>W.cell? ⟨g,o+i*2,none⟩=some (.int .i64 ad)∧W.cell? ⟨g,o+i*2+1,none⟩=some (.slice ab bs.length cb)) (first|exact⟨k0,k1⟩|exact K4) (first|((with_reducible refine (HDC.out _ hdr).mono ?_);rintro e w4 ⟨v4,its,rfl,hits,hia,hb4⟩;have hb5:=hdr.trans hb4;have K4:=(fun q=>And.intro q.1 q.2.1) (HKC.out w4 hb5)))
     go_wp2_with fail
     go_ret3;refine⟨fun h=>?_,fun r h0 h1=>?_,HB1.out.trans (hb5.mono HB1.out.size)⟩
     · have:=HK.out;omega
     · have h2:((i:Int).toNat)=i:=om
       rw[h2,HRJ.out] at h1;cases h1
       exact⟨_,its,rfl,hits,hia.mono HB1.out.size⟩
theorem aBJ {w:World} {v:Value} {bs:List UInt8} (h:Row w v bs.length (aT bs)):(convert 33 9 v).run prog w=.ok (.string ⟨bs.toArray⟩) w:=by
 obtain⟨a,c,rfl,_,hr⟩:=h;by_cases hnil:bs=[]
 · subst hnil;rw[List.length_nil,run_convert_bytes_string (P:=prog) w 33 9 5 a 0 c underlying33 underlying5 underlying9];cases a with
   | none=>rfl
   | some a=>rfl
 · obtain⟨g,o,rfl,hg,hcs⟩:=hr (by intro e;have h2:=fS bs;rw[e] at h2;exact hnil (List.eq_nil_of_length_eq_zero h2.symm))
   exact run_convert_bytes_back (P:=prog) w 33 9 5 ⟨g,o,none⟩ c bs underlying33 underlying5 underlying9 (fun j hj=>by
    rw[bD,hcs j (by rw[fS];exact hj)];simp[aT,hj])
theorem aBM (x:It) (vr va ur ua:Value) (w:World) (h1:Row w vr x.raw.length (aT x.raw)) (h2:Row w va x.ins.2.length (opc x.ins.2)) (h3:Row w ur x.raw.length (aT x.raw)) (h4:Row w ua x.ins.2.length (opc x.ins.2)) (hl:x.ins.2.length≤1000000) :
 Calls prog 27 #[itV x vr va,itV x ur ua] w fun e w'=>e=.returned (.bool true)∧Below w.heap.size w w':=by
 obtain⟨ki,ra,⟨im,ia⟩,ial⟩:=x;dsimp only[itV] at *;have HS:=Hh (fun W (hb:Below w.heap.size w W)=>Bh ⟨im.toArray⟩ ⟨im.toArray⟩ va ua ia ia W (h2.below hb) (h4.below hb) hl hl);have HC1:=Hh (fun W (hb:Below w.heap.size w W)=>aBJ (h1.below hb));have HC2:=Hh (fun W (hb:Below w.heap.size w W)=>aBJ (h3.below hb));obtain⟨a1,c1,rfl,_,_⟩:=h1;obtain⟨a2,c2,rfl,_,_⟩:=h2;obtain⟨a3,c3,rfl,_,_⟩:=h3;obtain⟨a4,c4,rfl,_,_⟩:=h4;have hkk:((ki:Int) == (ki:Int))=true:=by simp
 go_enter func27,ntmps27
 go_wp2_with fail
 obtain⟨W0,hW0⟩:∃ W,(w.alloc (.cells #[.int .i64 ki,.slice a1 ra.length c1,.string ⟨im.toArray⟩,.slice a2 ia.length c2,.bool ial] 55)).alloc (.cells #[.int .i64 ki,.slice a3 ra.length c3,.string ⟨im.toArray⟩,.slice a4 ia.length c4,.bool ial] 55)=W:=⟨_,rfl⟩;rw[hW0];have hb0:Below w.heap.size w W0:=by rw[←hW0];exact bl
 have hx1:W0.heap[w.heap.size]? = some (.cells #[.int .i64 ki,.slice a1 ra.length c1,.string ⟨im.toArray⟩,.slice a2 ia.length c2,.bool ial] 55 (0,0)):=by rw[←hW0];exact aE (aF _ _)
 have hx2:W0.heap[w.heap.size+1]? = some (.cells #[.int .i64 ki,.slice a3 ra.length c3,.string ⟨im.toArray⟩,.slice a4 ia.length c4,.bool ial] 55 (0,0)):=by
  rw[←hW0]
  have:=aF (w.alloc (.cells #[.int .i64 ki,.slice a1 ra.length c1,.string ⟨im.toArray⟩,.slice a2 ia.length c2,.bool ial] 55)) (.cells #[.int .i64 ki,.slice a3 ra.length c3,.string ⟨im.toArray⟩,.slice a4 ia.length c4,.bool ial] 55)
  rwa [World.size_alloc] at this
 obtain⟨⟨p0,p1,p2,p3,p4⟩,_⟩:=bJ hx1;obtain⟨⟨q0,q1,q2,q3,q4⟩,_⟩:=bJ hx2;have hl1:=aA hx1;have hl2:=aA hx2;have v1:=HC1.out W0 hb0;have v2:=HC2.out W0 hb0;have hss:((⟨ra.toArray⟩:ByteArray) == ⟨ra.toArray⟩)=true:=oT _;have HX1:=Hh hx1;have HX2:=Hh hx2;have HB0:=Hh hb0;clear hW0 hx1 hx2 hb0;go_wp2_with fail
 rw[v1];simp only[Result.andThen];rw[Oper.upon_value];go_wp2_with fail
 (with_reducible refine (HS.out W0 HB0.out).mono ?_);rintro e w1 ⟨rfl,hb1⟩;have hx1:=aB HX1.out hb1 hl1;have hx2:=aB HX2.out hb1 hl2;obtain⟨⟨_,_,_,_,r4⟩,_⟩:=bJ hx1;obtain⟨⟨_,_,_,_,s4⟩,_⟩:=bJ hx2;have hl3:=aA hx1;have hl4:=aA hx2;have HB1:=Hh (HB0.out.trans (hb1.mono HB0.out.size));clear hb1 hx1 hx2 p0 p1 p2 p3 p4 q0 q1 q2 q3 q4 v1 v2;rw[show decide (True∧True)=true by simp]
 have hbb:(ial == ial)=true:=by simp
 go_wp2_with fail
 go_ret;exact⟨rfl,HB1.out⟩
theorem aBP {W W':World} {a b o q:Nat} {x0 x1 x2 x3 x4 y0 y1 y2 y3 y4:Value} (hb:Below W.heap.size W W') (ha:a<W.heap.size) (hc:b<W.heap.size) (h:(W.cell? ⟨a,o,none⟩=some x0∧W.cell? ⟨a,o+1,none⟩=some x1∧W.cell? ⟨a,o+2,none⟩=some x2∧W.cell? ⟨a,o+3,none⟩=some x3∧W.cell? ⟨a,o+4,none⟩=some x4)∧(W.cell? ⟨b,q,none⟩=some y0∧W.cell? ⟨b,q+1,none⟩=some y1∧W.cell? ⟨b,q+2,none⟩=some y2∧W.cell? ⟨b,q+3,none⟩=some y3∧W.cell? ⟨b,q+4,none⟩=some y4)) :
 (W'.cell? ⟨a,o,none⟩=some x0∧W'.cell? ⟨a,o+1,none⟩=some x1∧W'.cell? ⟨a,o+2,none⟩=some x2∧W'.cell? ⟨a,o+3,none⟩=some x3∧W'.cell? ⟨a,o+4,none⟩=some x4)∧(W'.cell? ⟨b,q,none⟩=some y0∧W'.cell? ⟨b,q+1,none⟩=some y1∧W'.cell? ⟨b,q+2,none⟩=some y2∧W'.cell? ⟨b,q+3,none⟩=some y3∧W'.cell? ⟨b,q+4,none⟩=some y4):=by
 have ka:=fun i=>hb.cell (p:=⟨a,i,none⟩) ha;have kb:=fun i=>hb.cell (p:=⟨b,i,none⟩) hc;rw[ka,ka,ka,ka,ka,kb,kb,kb,kb,kb];exact h
theorem aBO {its jts:List ItX} (h:its.map Prod.fst=jts.map Prod.fst) {j:Nat} {x y:ItX} (hx:its[j]? = some x) (hy:jts[j]? = some y):y.1=x.1:=by
 have h1:(its.map Prod.fst)[j]? = some x.1:=by rw[List.getElem?_map,hx];rfl
 have h2:(jts.map Prod.fst)[j]? = some y.1:=by rw[List.getElem?_map,hy];rfl
 rw[h,h2] at h1;exact Option.some.inj h1
theorem aBL (its jts:List ItX) (v u:Value) (m n:Nat) (w:World) (h:its.map Prod.fst=jts.map Prod.fst) (h1:ItsAt w m v its) (h2:ItsAt w n u jts) (hl:its.length≤1000000) (hal:∀ x∈its,x.1.ins.2.length≤1000000) :
 Calls prog 13 #[v,u] w fun e w'=>e=.returned (.bool true)∧Below w.heap.size w w':=by
 have hlen:its.length=jts.length:=by have:=congrArg List.length h;simpa using this
 obtain⟨a1,c1,rfl,hc1,hh1⟩:=h1.get;obtain⟨a2,c2,rfl,hc2,hh2⟩:=h2.get;rw[←hlen] at hc2 ⊢;have H1:=Hh h1;have H2:=Hh h2;have HH1:=Hh hh1;have HH2:=Hh hh2;have HE:=Hh h;have HAL:=Hh hal;have HLEN:=Hh hlen;clear h1 h2 hh1 hh2 h hal hlen;go_enter func13,ntmps13
 go_wp2_with fail
 go_loopw [5] (fun i wr=>∃ j:Nat,j≤its.length∧i=.int .i64 j∧Hid (Below w.heap.size w wr)) (fun i _=>its.length - (intOf i).toNat)
 case atStart=>exact⟨0,Nat.zero_le _,rfl,Hh br⟩
 case round =>
  obtain⟨j,hj,rfl,HB⟩:=hrel;by_cases hlt:j<its.length
  · obtain⟨x,hx⟩:∃ x,its[j]? = some x:=⟨_,List.getElem?_eq_getElem hlt⟩;have hlt2:j<jts.length:=by have:=HLEN.out;omega
    obtain⟨y,hy⟩:∃ y,jts[j]? = some y:=⟨_,List.getElem?_eq_getElem hlt2⟩;obtain⟨g,o,rfl,_,hg,hcs⟩:=HH1.out (by rintro rfl;exact absurd hlt (Nat.not_lt_zero _))
    obtain⟨g2,o2,rfl,_,hg2,hcs2⟩:=HH2.out (by intro h;rw[h] at hlt2;exact absurd hlt2 (Nat.not_lt_zero _))
    obtain⟨k0,k1,k2,k3,k4⟩:=hcs j x hx;obtain⟨l0,l1,l2,l3,l4⟩:=hcs2 j y hy;have hat:=H1.out.has x (List.mem_of_getElem? hx);have hat2:=H2.out.has y (List.mem_of_getElem? hy);have hxy:=(aBO HE.out hx hy).symm;have hxl:=HAL.out x (List.mem_of_getElem? hx);obtain⟨x,vr,va⟩:=x;obtain⟨y,ur,ua⟩:=y;dsimp only at *;subst hxy;have HSM:=Hh (fun W (hb:Below w.heap.size w W)=>aBM x vr va ur ua W ((Row.of_owns hat.raw).below hb) ((WRow.row hat.args.row).below hb) ((Row.of_owns hat2.raw).below hb) ((WRow.row hat2.args.row).below hb) hxl);have m0:=(HB.out.cell (p:=⟨g,o+j*5,none⟩) hg).trans k0;have m1:=(HB.out.cell (p:=⟨g,o+j*5+1,none⟩) hg).trans k1;have m2:=(HB.out.cell (p:=⟨g,o+j*5+2,none⟩) hg).trans k2;have m3:=(HB.out.cell (p:=⟨g,o+j*5+3,none⟩) hg).trans k3;have m4:=(HB.out.cell (p:=⟨g,o+j*5+4,none⟩) hg).trans k4;have n0:=(HB.out.cell (p:=⟨g2,o2+j*5,none⟩) hg2).trans l0;have n1:=(HB.out.cell (p:=⟨g2,o2+j*5+1,none⟩) hg2).trans l1;have n2:=(HB.out.cell (p:=⟨g2,o2+j*5+2,none⟩) hg2).trans l2;have n3:=(HB.out.cell (p:=⟨g2,o2+j*5+3,none⟩) hg2).trans l3;have n4:=(HB.out.cell (p:=⟨g2,o2+j*5+4,none⟩) hg2).trans l4;have hi0:(0:Int)≤(j:Int):=om
    have hi1:(j:Int)<(its.length:Int):=om
    have hgw:g<wr.heap.size:=Nat.lt_of_lt_of_le hg HB.out.size;have hgw2:g2<wr.heap.size:=Nat.lt_of_lt_of_le hg2 HB.out.size;clear hcs hcs2 k0 k1 k2 k3 k4 l0 l1 l2 l3 l4 hat hat2 hx hy hxl;obtain⟨ki,ra,⟨im,ia⟩,ial⟩:=x;dsimp only[itV] at HSM m0 m1 m2 m3 m4 n0 n1 n2 n3 n4;go_wp2_with fail
    have hdr:Below wr.heap.size wr wr.drew:=Below.drew br;go_region_held3 (fun W=>(W.cell? ⟨g,o+j*5,none⟩=some (.int .i64 ki)∧W.cell? ⟨g,o+j*5+1,none⟩=some vr∧W.cell? ⟨g,o+j*5+2,none⟩=some (.string ⟨im.toArray⟩)∧W.cell? ⟨g,o+j*5+3,none⟩=some va∧W.cell? ⟨g,o+j*5+4,none⟩=some (.bool ial))∧(W.cell? ⟨g2,o2+j*5,none⟩=some (.int .i64 ki)∧W.cell? ⟨g2,o2+j*5+1,none⟩=some ur∧W.cell? ⟨g2,o2+j*5+2,none⟩=some (.string ⟨im.toArray⟩)∧W.cell? ⟨g2,o2+j*5+3,none⟩=some ua∧W.cell? ⟨g2,o2+j*5+4,none⟩=some (.bool ial))) (first|exact⟨⟨m0,m1,m2,m3,m4⟩,n0,n1,n2,n3,n4⟩|exact K4) (first|((with_reducible refine (HSM.out _ (HB.out.trans (hdr.mono HB.out.size))).mono ?_);rintro e w4 ⟨rfl,hb4⟩;have hb5:=hdr.trans hb4;have K4:=aBP hb5 hgw hgw2 ⟨⟨m0,m1,m2,m3,m4⟩,n0,n1,n2,n3,n4⟩))
    have HB5:=Hh (HB.out.trans (hb5.mono HB.out.size));clear hb4 hb5 K4 m0 m1 m2 m3 m4 n0 n1 n2 n3 n4;go_wp2_with fail
    go_roundw
    case rel=>exact⟨j+1,om,by go_num,HB5⟩
    case measure=>simp[intOf];omega
  · obtain rfl:j=its.length:=om
    go_wp2_with fail
    go_ret;exact⟨rfl,HB.out⟩
end Go.Proofs.YtoigglljnklhlaaGreatDoor
namespace Go.Proofs.YtoigglljnklhlaaGreatDoor
open Go.RowKit Go.Sort
end Go.Proofs.YtoigglljnklhlaaGreatDoor
