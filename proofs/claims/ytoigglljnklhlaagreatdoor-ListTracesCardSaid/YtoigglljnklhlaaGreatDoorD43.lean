/- Joined. -/
import Derived.Test.YtoigglljnklhlaaGreatDoorD40
set_option maxHeartbeats 8000000
set_option maxRecDepth 100000
namespace Go.Proofs.YtoigglljnklhlaaGreatDoor
section
open Go.RowKit Go.Sort
open Go.Proofs.Tryz
theorem Bn (k:Int) (x:It) (vr va:Value) (w:World) (hT:TabsA w) (hr:Row w vr x.raw.length (aT x.raw)) (ha:Row w va x.ins.2.length (opc x.ins.2)) (hrl:x.raw.length≤100000) (hal:x.ins.2.length≤900) (hml:x.ins.1.length≤1000) :
 Calls prog 30 #[k,itV x vr va] w fun e w'=>e=.returned (.string (dH x))∧Below w w w':=by
 have hI:=fun X (hb:Below w w X)=>Hq x vr va X (hT.below hb) (hr.below hb) (ha.below hb) hrl hal hml;have HI:=Hh hI;obtain⟨ki,ra,⟨im,ia⟩,ial⟩:=x;dsimp only at hr ha;obtain⟨ar,cr,rfl,_,_⟩:=hr;obtain⟨aa,ca,rfl,_,_⟩:=ha;clear hI hT;dsimp only[itV] at HI ⊢;go_enter func30,ntmps30
 go_wp2_with fail
 (with_reducible refine (HI.out _ (br.alloc lr _)).mono ?_);rintro e w2 ⟨rfl,hb2⟩;have HB2:=Hh (((Below.refl w w).alloc lr _).trans (hb2.mono (by rw[Qa];omega)));clear hb2;go_wp2_with fail
 go_ret;exact⟨rfl,HB2.out⟩
end
section
open Go.RowKit Go.Sort Go.Shelf
open Go.Proofs.Tryz
attribute [local go_sem] Oper.semAt_some
theorem mU (x:Int) (a:Option Addr) (n c:Nat) (w:World):Calls prog 29 #[.agg #[x,.slice a n c]] w fun e w'=>e=.returned (.func (.func 57) #[] #[.pointer w])∧w'=w.alloc (.cells #[x,.slice a n c] 61):=by
 go_enter func29,ntmps29
 go_wp2_with fail
 go_ret;exact⟨rfl,rfl⟩
end
section
open Go.RowKit Go.Sort Go.Shelf
open Go.Proofs.Tryz
attribute [local go_sem] Oper.semAt_some
theorem Aq (b:Nat) (C:List Cl) (w:World) (hI:ImgAt b C w) (hTB:TabB w) (hT:∀ W,Below w w W→TabsA W) (hn:C.length≤60000) :
 Calls prog 31 #[.agg #[.func (.func 30) #[] #[]],.pointer b] w fun e w'=>e=.returned (eD (fun _ x=>dH x) (aS C))∧Below w w w':=by
 have HRN:=Hh (fun X (hb:Below w w X)=>xW b C X (hI.below hb hI.raw.lt) (hTB.below hb) hn);have hrc:=iH C;have HRL:=Hh (fun r (hr:r∈aS C)=>And.intro (Qn (Bg hr) hn) (xY hI.asc hr));generalize aS C=R at *;have HT:=Hh hT;have HN:=Hh (And.intro hn hrc);clear hI hTB hT hn hrc;have HWL:=Hh (fun j=>Fp (tx:=(fun _ x=>dH x)) uF R j (fun r hr=>HRL.out r hr) (Qn HN.out.2 HN.out.1));refine (callsIn_wide (n:=3)).1 ?_;refine callsIn_of_wp_marks func31 rfl trivial ?_ rfl;simp only[ntmps31,Qx,Qp,Qz,Nat.reduceAdd,Nat.reduceSub,Array.replicate_succ,Array.replicate_zero,List.push_toArray,List.append_toArray,Ye,Xy];refine wpIn_wide.2 ?_;go_wp2_with fail
 obtain⟨w1,hw1⟩:∃ w1,(w.alloc (.cells #[.func (.func 30) #[] #[]] 71)).alloc (.cells #[.pointer none,zz] 77)=w1:=⟨_,rfl⟩;have hb1:Below w w w1:=by rw[←hw1];exact bl
 have hst1:w1.heap[w.heap.size]? = some (.cells #[.func (.func 30) #[] #[]] 71 (0,0)):=by rw[←hw1];exact aE (aF _ _)
 have hbk1:w1.heap[w.heap.size+1]? = some (.cells #[.pointer none,zz] 77 (0,0)):=by
  rw[←hw1]
  have:=aF (w.alloc (.cells #[.func (.func 30) #[] #[]] 71)) (.cells #[.pointer none,zz] 77)
  rwa [Qa] at this
 have hs1:w1.heap.size=w.heap.size+2:=by rw[←hw1];simp
 rw[hw1];clear hw1;have HS1:=Hh hs1;clear hs1;(with_reducible refine (HRN.out _ hb1).mono ?_);rintro e w2 ⟨vr,rs,rfl,hrs,hrows,hb2⟩;have hbk2:=aB hbk1 hb2 (aA hbk1);have hst2:=aB hst1 hb2 (aA hst1);have hW2:WrI (w.heap.size+1) w1.heap.size w2 [] w2:=⟨.inl ⟨Qk _,_,hbk2,Xa _ _ _ _,by simp[Value.ownBlock]⟩,(fun k hk=>((fY hbk2 k).1 hk).elim .inl (fun h=>absurd h (by simp[Value.ownBlock]))),fun _ _ _ ho _=>ho,Qk _⟩
 have HRS:=Hh hrs;have HROW:=Hh hrows;have hbw2:=hb1.trans (hb2.mono hb1.size);have HSZ2:=Hh hb2.size;have h0:WvInv (fun _ x=>dH x) 30 w.heap.size w1 w w2 R 0 [] w2:=⟨hW2,hst2,by simp,List.nodup_nil,hbw2⟩
 have H0:=Hh h0;obtain⟨av,cv,rfl⟩:=aI hrows.own;clear hrs hrows hb1 hb2 hbk1 hbk2 hst1 hst2 hW2 hbw2 h0;go_wp2_with fail
 refine (wpIn_wide (n:=3)).1 ?_;refine wpIn_loop_ghost (fun k a' wr=>∃ (j:Nat) (u7 u14 u15 u16 u17 u18 u19 u20 u21 u22 u23 u24 u35:Value) (ds:List Nat),a'={ tmps:=#[.agg #[.func (.func 30) #[] #[]],.pointer b,.pointer w,undef,.string ⟨#[]⟩,.pointer (w+1:Nat),undef,u7,undef,undef,.pointer b,.slice av rs.length cv,.int .i64 rs.length,.int .i64 j,u14,u15,u16,u17,u18,u19,u20,u21,u22,u23,u24,undef,undef,undef,undef,undef,undef,undef,undef,undef,undef,u35,undef],defers:=ds.map mkD }∧j≤rs.length∧WvInv (fun _ x=>dH x) 30 w.heap.size w1 w w2 R j ds wr∧rs.length - j<k) (rs.length+1) ?start ?round
 case start=>exact⟨0,undef,undef,undef,undef,undef,undef,undef,undef,undef,undef,undef,undef,undef,[],rfl,Qi _,H0.out,om⟩
 case round =>
  rintro k a' wr ⟨j,u7,u14,u15,u16,u17,u18,u19,u20,u21,u22,u23,u24,u35,ds,rfl,hj,hinv,hk⟩;have HV:=Hh hinv;clear hinv;by_cases hlt:j<rs.length
  · obtain⟨x,hx⟩:∃ x,rs[j]? = some x:=⟨_,Qb hlt⟩;have hrw:=HV.out.wr.rows HROW.out;obtain⟨_,_,hv,hcv,hh⟩:=hrw.get;cases hv
    obtain⟨g,o,rfl,_,hg,hcs⟩:=hh (by rintro rfl;exact absurd hlt (Qw _))
    obtain⟨k0,k1⟩:=hcs j x hx;have hxm:x.1∈R:=by rw[←HRS.out];exact Zi (Qu hx)
    have hRj:R[j]? = some x.1:=by rw[←HRS.out,Ya,hx];rfl
    have hxo:=hrw.has x (Qu hx);obtain⟨⟨ad,bs⟩,vb⟩:=x;dsimp only at k0 k1 hxo hxm hRj;obtain⟨hbl,hadl⟩:=HRL.out _ hxm;dsimp only at hbl hadl;obtain⟨ab,cb,rfl⟩:=aI hxo;have HXO:=Hh hxo;have HRJ:=Hh hRj;have HX:=Hh hx;have hi0:(0:Int)≤(j:Int):=om
    have hi1:(j:Int)<(rs.length:Int):=om
    have hcv1:(rs.length:Int)≤(cv:Int):=om
    have hnt:=nD (ad:Int);clear hh hcs hxo hrw hRj hx;gi_wp2_with fail
    obtain⟨w3,hw3⟩:∃ W,wr.alloc (.cells #[ad,.slice ab bs.length cb] 61)=W:=⟨_,rfl⟩;have hb3:Below wr wr w3:=by rw[←hw3];exact br.alloc lr _
    have hr3:w3.heap[wr.heap.size]? = some (.cells #[ad,.slice ab bs.length cb] 61 (0,0)):=by rw[←hw3];exact aF _ _
    have HSB:=Hh (fun W (hb:Below wr wr W) (hs:SB (w.heap.size+1) W wr)=>Zx _ (Lw HV.out.wr.bu _ (rU _ _ (Yg _) wr W (lP HV.out.wr.bu) hb _ hs)));have HB3:=Hh hb3;have HR3:=Hh hr3;rw[hw3];clear hw3 hb3 hr3 k0 k1;refine⟨trivial,?_⟩;refine (callsIn_wide.2 (fD _ _ (HT.out w3 (HV.out.below.trans (HB3.out.mono HV.out.below.size))).t)).mono ?_;rintro e w4 ⟨rfl,hb4⟩;have hb34:=HB3.out.trans (hb4.mono HB3.out.size);have hr4:=aB HR3.out hb4 (aA HR3.out);have hv4:=HV.out.below' hb34;have HB4:=Hh hb34;have HR4:=Hh hr4;have HV4:=Hh hv4;clear hb4 hb34 hr4 hv4;gi_wp2_with fail
    have hwl:=HWL.out j;refine⟨trivial,?_⟩;refine (callsIn_wide.2 (rG _ _ _ _ _ w4 HV4.out.wr (by have:=HS1.out;omega) (by rw[Qm,Qm];show _+(5+_+1)≤_;omega))).mono ?_
    rintro e w5 ⟨rfl,hwr5,hb5,hk5⟩;clear hwl;rw[show ((⟨#[9,79,82,71,32]⟩:ByteArray)++aX (ad:Int)++⟨#[10]⟩).data.toList=tS ad by rw[Xq,Xq,Array.toList_append,Array.toList_append];rfl] at hwr5
    have hr5:=hk5.2.1 _ _ HR4.out (HSB.out w4 HB4.out);have hv5:=HV4.out.kpA (by have:=HS1.out;omega) (by have:=HSZ2.out;have:=HS1.out;omega) hk5 (hb5.mono (Xn _));have HR5:=Hh hr5;have HV5:=Hh hv5;have HWR5:=Hh hwr5;obtain⟨z0,z1,_,_⟩:=aL hr5;have hlr5:=aA hr5;have hnb5:¬ SB (w.heap.size+1) w5 wr.heap.size:=fun hs=>by
     rcases hk5.2.2 _ hs with h1|h1
     · exact HSB.out w4 HB4.out h1
     · have:=aA HR4.out;omega
    have HNB5:=Hh hnb5;clear hr5 hv5 hwr5 hb5 hk5 hnb5 HV4 HR4 HB4 HSB HR3 HB3;gi_wp2_with fail
    refine⟨trivial,?_⟩;refine (callsIn_wide.2 (mU _ _ _ _ _)).mono ?_;rintro e w6 ⟨rfl,hw6⟩;have h6b:w6.heap[w5.heap.size]? = some (.cells #[ad,.slice ab bs.length cb] 61 (0,0)):=by rw[hw6];exact aF _ _
    have h6l:Below w5 w5 w6:=by rw[hw6];exact br.alloc lr _
    have h6s:w6.heap.size=w5.heap.size+1:=by rw[hw6];simp
    have h6k:WrI (w.heap.size+1) w1.heap.size w2 (eD (fun _ x=>dH x) (R.take j)++tS ad) w6:=HWR5.out.below h6l;have h6i:WvIn (fun _ x=>dH x) 30 w.heap.size w1 w w2 (eD (fun _ x=>dH x) (R.take j)++tS ad) [] ds w6 w6:=⟨by simpa[mJ] using h6k,aB HV5.out.st h6l (aA HV5.out.st),fun D hD=>⟨(HV5.out.marks D hD).1,Qj (aA (HV5.out.marks D hD).2) h6l.size,aB (HV5.out.marks D hD).2 h6l (aA (HV5.out.marks D hD).2)⟩,HV5.out.below.trans (h6l.mono HV5.out.below.size),by simp[mJ],Qk _⟩
    have hrow6:Row w6 (.slice ab bs.length cb) bs.length (aT bs):=Row.of_owns ((h6k.rows HROW.out).has _ (Qu HX.out));have H6B:=Hh h6b;have H6S:=Hh h6s;have H6I:=Hh h6i;have HROW6:=Hh hrow6;have H6L:=Hh h6l;clear hw6 h6b h6l h6s h6k h6i hrow6 z0 z1 hlr5;gi_wp2_with fail
    refine cM rfl dc (gf:=57) (lb:=#[.pointer w5]) rfl trivial (enters_of func57 kr rfl)
     (Fi 2 w5.heap.size (w.heap.size+2) ad dc (SB (w.heap.size+1)) (rU _ _ (Yg _)) bs (.slice ab bs.length cb) om om)
     ?rdy (fun A B k o h hk _ _=>aB hk h (aA hk)) Vr ?hKb (fun x W l o o' h _ hl hc=>⟨h.1.on (gK (cC (b:=0) W l o o' hl hc)) (Qi _),h.2⟩) (fun _=>rfl)
     (fun pre W=>WvIn (fun _ x=>dH x) 30 w.heap.size w1 w w2 (eD (fun _ x=>dH x) (R.take j)++tS ad) pre ds w6 W)
     (fun _ _ _=>False)
     ?hI ?hIs (fun c s A B row h _ _=>h) (fun c s A B h _=>h) H6I.out
     (fun x W=>{ tmps:=#[.agg #[.func (.func 30) #[] #[]],.pointer b,.pointer w,undef,.string ⟨#[]⟩,.pointer (w+1:Nat),undef,.pointer (some ⟨wr,0,none⟩),.int .i64 x.1,.pointer (some ⟨W,0,none⟩),.pointer b,.slice (some ⟨g,o,none⟩) rs.length cv,.int .i64 rs.length,.int .i64 j,.bool true,.pointer (some ⟨g,o+j*2,none⟩),.agg #[ad,.slice ab bs.length cb],.pointer (some ⟨wr,0,none⟩),.int .i64 ad,.string (aX (ad:Int)),.string (⟨#[9,79,82,71,32]⟩++aX (ad:Int)),.string (⟨#[9,79,82,71,32]⟩++aX (ad:Int)++⟨#[10]⟩),.tuple #[.int .i64 (5+((aX (ad:Int)).size:Int)+1),.nilIface],.agg #[ad,.slice ab bs.length cb],.func (.func 57) #[] #[.pointer w5],.int .i64 x.1,itV x.2.1 x.2.2.1 x.2.2.2,undef,undef,undef,undef,undef,undef,undef,undef,u35,undef],defers:=[] })
     (fun x W=>W.alloc (.cells #[x.2.1.kind,x.2.2.1,x.2.1.ins.1,x.2.2.2,.bool x.2.1.alias] 55))
     (fun x a' W=>∃ q,a'={ tmps:=#[.agg #[.func (.func 30) #[] #[]],.pointer b,.pointer w,undef,.string ⟨#[]⟩,.pointer (w+1:Nat),undef,.pointer (some ⟨wr,0,none⟩),.int .i64 x.1,.pointer (some ⟨q,0,none⟩),.pointer b,.slice (some ⟨g,o,none⟩) rs.length cv,.int .i64 rs.length,.int .i64 j,.bool true,.pointer (some ⟨g,o+j*2,none⟩),.agg #[ad,.slice ab bs.length cb],.pointer (some ⟨wr,0,none⟩),.int .i64 ad,.string (aX (ad:Int)),.string (⟨#[9,79,82,71,32]⟩++aX (ad:Int)),.string (⟨#[9,79,82,71,32]⟩++aX (ad:Int)++⟨#[10]⟩),.tuple #[.int .i64 (5+((aX (ad:Int)).size:Int)+1),.nilIface],.agg #[ad,.slice ab bs.length cb],.func (.func 57) #[] #[.pointer w5],.int .i64 x.1,itV x.2.1 x.2.2.1 x.2.2.2,undef,undef,undef,undef,undef,undef,undef,undef,u35,undef],defers:=[] }∧W.heap[q]? = some (.cells #[x.2.1.kind,x.2.2.1,x.2.1.ins.1,x.2.2.2,.bool x.2.1.alias] 55 (0,0)))
     ?assign (fun x W=>br.alloc lr _) ?kpW (fun x W h=>⟨h.1.below (br.alloc lr _),h.2⟩) (fun x W=>⟨_,rfl,aF _ _⟩) (fun x a' W l o o' ⟨q,h1,h2⟩ _ hl hc=>⟨q,h1,(cC (b:=0) W l o o' hl hc).2 _ _ (Qi _) h2 rfl⟩) ?body ?done (fun D cd pre W _ _ h _=>h.elim)
    case rdy =>
     intro o1 o2;have hbl2:Below w6 w6 ((w6.alloc o1).alloc o2):=(br.alloc lr o1).alloc (by rw[Qa];omega) o2;have hwi:=H6I.out.wr.below hbl2;exact⟨aB H6B.out hbl2 (aA H6B.out),(fun hs=>by have:=Lw HWR5.out.bu _ (rU _ _ (Yg _) w5 _ (lP HWR5.out.bu) (H6L.out.trans (hbl2.mono H6L.out.size)) _ hs);exact Zx _ this),HROW6.out.below hbl2,fun W' hb=>HT.out W' (H6I.out.below.trans ((hbl2.mono H6I.out.below.size).trans (hb.mono (Qn H6I.out.below.size hbl2.size)))),fun k hk=>Lw hwi.bu k hk,lP hwi.bu⟩
    case hKb=>exact fun W l o1 o2 hwl hl hc _=>⟨(cC (b:=0) W l o1 o2 hl hc).1,fun k u hu hcu _=>(cC (b:=0) W l o1 o2 hl hc).2 k u (Qi _) hu hcu,fun k h=>.inl (aPz o2 (by have:=lP H6I.out.wr.bu;omega) k h)⟩
    case hI =>
     intro s A B row h hg hr;exact h.keepC (fG hg hr) (fun D hD=>by
      obtain⟨h1,h2,h3⟩:=h.marks D hD;exact (hg.block D (aA h3) (fun e=>by have:=(hr D e.symm).1;omega)).trans h3) (ownFrom_below lr H6I.out.below.size s A B row h.below hg hr)
    case hIs=>exact fun s A B h hs=>h.keepC (cA hs) (fun D hD=>aB (h.marks D hD).2.2 hs (aA (h.marks D hD).2.2)) (h.below.trans (hs.mono h.below.size))
    case kpW=>exact fun x W=>⟨by rw[Qa];omega,fun k o ho _ _=>aE ho,fun k hk=>.inl (Ly dc k hk)⟩
    case assign =>
     rintro l ⟨a0,⟨ki,ra,⟨im,ia⟩,ial⟩,vr,va⟩ W K hg hK;dsimp only at hg;obtain⟨ar,cr,rfl⟩:=aI hg.1.raw;obtain⟨aa,ca,rfl⟩:=hg.1.args.slice;dsimp only[itV] at hK ⊢;gi_wp2
     exact hK
    case body =>
     rintro lp pre ⟨a0,⟨ki,ra,⟨im,ia⟩,ial⟩,vr,va⟩ a' W hin ⟨hat,hmem,hab⟩ ⟨q,rfl,hq⟩ hN;dsimp only at hat hmem hab hq;have hral:=tB hmem;have hins:=xA _ _ _ hmem;dsimp only at hral;have hdl:=kK bs;have htx:=uF a0 ⟨ki,ra,(im,ia),ial⟩ hins;dsimp only at htx;have hCALL:Calls prog 30 #[a0,itV ⟨ki,ra,(im,ia),ial⟩ vr va] W fun e w'=>e=.returned (.string ((fun _ x=>dH x) a0 ⟨ki,ra,(im,ia),ial⟩))∧Below W W w' :=
      Bn a0 ⟨ki,ra,(im,ia),ial⟩ vr va W (HT.out W hin.below) (Row.of_owns hat.raw) (WRow.row (ORow.row hat.args)) (by show ra.length≤100000;omega) (by have:=hins.2;dsimp only at this;show ia.length≤900;omega) (by have:=hins.1;dsimp only at this;show im.length≤1000;omega)
     obtain⟨ar,cr,rfl⟩:=aI hat.raw;obtain⟨aa,ca,rfl⟩:=hat.args.slice;have hsm:=hin.small;have hpre:pre.length≤60000:=om
     have hwl:=HWL.out j;have hnt2:=nD (ad:Int);have hln:(eD (fun _ x=>dH x) (R.take j)++tS ad++mJ (fun _ x=>dH x) (pre.map fun x=>(x.1,x.2.1))).length≤100000000000000:=by
      have h1:pre.length*2000000≤60000*2000000:=Ze _ hpre;rw[Qc,Qc,Mw];omega
     have HIN:=Hh hin;have HLN:=Hh hln;have hst:=hin.st;have s0:W.cell? w=some (.func (.func 30) #[] #[]):=aC hst 0;have hlst:=aA hst;obtain⟨⟨z0,z1,z2,z3,z4⟩,_⟩:=bJ hq;have hlq:=aA hq;dsimp only[itV] at hCALL ⊢;obtain⟨TS,hTS⟩:∃ s,(fun _ x=>dH x) a0 ⟨ki,ra,(im,ia),ial⟩=s:=⟨_,rfl⟩;have hts:TS.size≤700000:=by rw[←hTS];first|omega|(dsimp only;omega)
     have hCALL2:=hCALL.mono (R':=fun e w'=>e=.returned (.string TS)∧Below W W w') (fun e w' h=>by rw[←hTS];exact h);have HCALL:=Hh hCALL2;have HTS:=Hh hTS;clear hin hat hab hq hsm hwl hnt2 hln hst hCALL hCALL2 hTS htx hmem hins hN hdl hral;gi_wp2_with fail
     refine⟨trivial,?_⟩;refine (CallsIn.inRound lp (callsIn_wide.2 HCALL.out)).mono ?_;rintro e W3 ⟨rfl,hb3⟩;have HB3:=Hh hb3;have HIN3:=Hh (HIN.out.keepC (cA hb3) (fun D hD=>aB (HIN.out.marks D hD).2.2 hb3 (aA (HIN.out.marks D hD).2.2)) (HIN.out.below.trans (hb3.mono HIN.out.below.size)));clear hb3;gi_wp2_with fail
     refine⟨trivial,?_⟩;refine (CallsIn.inRound lp (callsIn_wide.2 (rG _ _ _ _ _ W3 HIN3.out.wr (by have:=HS1.out;omega) (by rw[Qm,Qm];show _+(1+_+1)≤_;have:=HLN.out;omega)))).mono ?_
     rintro e W4 ⟨rfl,hwr4,hb4,hk4⟩;have hst4:=Ra (vr:=.slice ar ra.length cr) (va:=.slice aa ia.length ca) (by have:=HS1.out;have:=HSZ2.out;omega) HIN.out (Vs (He (rU _ _ (Yg _)) (lP HIN.out.wr.bu) HB3.out) hk4) (a0:=a0) (x:=⟨ki,ra,(im,ia),ial⟩) (by
      have e:lnG (fun _ x=>dH x) a0 ⟨ki,ra,(im,ia),ial⟩=((⟨#[9]⟩:ByteArray)++TS++⟨#[10]⟩).data.toList:=by
       rw[Xq,Xq,Array.toList_append,Array.toList_append];exact congrArg (fun s:ByteArray=>[9]++s.data.toList++[10]) HTS.out
      rw[e];exact hwr4) ((HB3.out.mono HIN.out.below.size).trans (hb4.mono (Xn _))) (by rw[HTS.out];omega)
     have HST4:=Hh hst4;clear hwr4 hb4 hk4 hst4;gi_wp2_with fail
     exact HST4.out
    case done =>
     rintro D xs W hD hxs hin hK;have hits:xs.map (fun x=>(x.1,x.2.1))=iT ad (dI bs):=hxs;have hwr:=hin.wr;rw[hits,Yc,show tS ad++mJ (fun _ x=>dH x) (iT ad (dI bs))=Gg (fun _ x=>dH x) (ad,bs) from rfl,←xI HRJ.out] at hwr
     have HNX:=Hh (show WvInv (fun _ x=>dH x) 30 w.heap.size w1 w w2 R (j+1) (D::ds) W from⟨hwr,hin.st,fun E hE=>by
      rcases Xg.1 hE with rfl|hE
      · exact⟨Qn H6I.out.below.size hD,hK⟩
      · exact⟨(hin.marks E hE).1,(hin.marks E hE).2.2⟩,Zv.2 ⟨fun hE=>by have:=(hin.marks D hE).2.1;omega,HV.out.nodup⟩,hin.below⟩)
     clear hin hwr hits hxs hK;have hrl9:rs.length≤60000:=by have h1:=HN.out;have h2:=congrArg List.length HRS.out;rw[Qs] at h2;omega
     gi_wp2_with fail
     exact⟨rs.length - j,hk,j+1,_,_,_,_,_,_,_,_,_,_,_,_,_,D::ds,rfl,om,HNX.out,om⟩
  · obtain rfl:j=rs.length:=om
    have hRl:R.take rs.length=R:=Xj (by rw[←HRS.out,Qs];exact Qk _);have hwr:=HV.out.wr;rw[hRl] at hwr;have HWR:=Hh hwr;clear hwr hRl;gi_wp2_with fail
    go_wp2_with fail
    (with_reducible refine (Tryz.Builder_String_any_k (w.heap.size+1) (w.heap.size+1) _ wr (Lib.IsBuilderF.of HWR.out.bu) (Xr (lP HWR.out.bu))).mono ?_);rintro e w9 ⟨rfl,_,hb9,hk9⟩;have hbf:Below w w w9:=HV.out.below.trans (hb9.mono (Xn _));have hmk:∀ D∈ds,w.heap.size≤D∧w9.heap[D]? = some (.deferred (some [])):=fun D hD=>⟨(HV.out.marks D hD).1,hk9 D _ (HV.out.marks D hD).2 (fun e=>by
     have h1:=(HV.out.marks D hD).2;obtain rfl:=Xi e;rcases HWR.out.bu with⟨_,v,h2,_⟩|⟨_,v,h2,_⟩<;>· rw[h2] at h1;cases h1) (fun c fz e=>by cases e)⟩
    have HBF:=Hh hbf;have HMK:=Hh hmk;clear hbf hmk hb9 hk9;go_wp2_with fail
    refine pK w.heap.size ds w9 HBF.out.size HMK.out HV.out.nodup (fun w' hk hb=>?_);refine⟨.string ⟨(eD (fun _ x=>dH x) R).toArray⟩,?_,rfl,HBF.out.trans hb⟩;simp[results,Tryz.f31,go_sem]
end
section
open Go.RowKit Go.Sort
open Go.Proofs.Tryz
theorem Wt:eD (fun _ x=>dH x) (aS (fZ [] 256 [221,0,237,76]))=[9,79,82,71,32,49,48,48,72,10,9,68,69,70,66,32,48,68,68,72,10,9,78,79,80,10,9,68,69,70,66,32,48,69,68,72,44,52,67,72,10]:=by decide +kernel
theorem yX (b:Nat) (C:List Cl) (w:World) (hI:ImgAt b C w) (hTB:TabB w) (hT:∀ W,Below w w W→TabsA W) (hn:C.length≤60000) :
 Calls prog 17 #[.pointer b] w fun e w'=>e=.returned (eD (fun _ x=>dH x) (aS C))∧Below w w w':=by
 have HW:=Hh (Aq b C w hI hTB hT hn);clear hI hTB hT hn;generalize eD (fun _ x=>dH x) (aS C)=R at *;go_enter func17,ntmps17
 go_wp2_with fail
 (with_reducible refine HW.out.mono ?_);rintro e w1 ⟨rfl,hb1⟩;have HB1:=Hh hb1;clear hb1;go_wp2_with fail
 go_ret;exact⟨rfl,HB1.out⟩
theorem Up (w:World) (hT:TabsA w) (hTB:TabB w):Calls prog 9 #[] w fun e w'=>e=.returned (.bool true)∧Below w w w':=by
 have HT:=Hh hT;have HTB:=Hh hTB;clear hT hTB;go_enter func9,ntmps9
 go_wp2_with fail
 (with_reducible refine (Et w).mono ?_);rintro e w1 ⟨rfl,him,hb1⟩;have HIM:=Hh him;have HB1:=Hh hb1;clear him hb1;go_wp2_with fail
 obtain⟨W1,hW1⟩:∃ W,w1.alloc (.cells #[.int .u8 221,.int .u8 0,.int .u8 237,.int .u8 76] 5)=W:=⟨_,rfl⟩;have hblk:W1.heap[w1.heap.size]? = some (.cells #[.int .u8 221,.int .u8 0,.int .u8 237,.int .u8 76] 5 (0,0)):=by rw[←hW1];exact aF _ _
 have hrow:Row W1 (.slice w1 4 4) ([221,0,237,76]:List UInt8).length (aT [221,0,237,76]):=⟨_,4,rfl,Qk _,fun _=>⟨w1,0,rfl,aA hblk,fun j hj=>by
  rw[Lib.cell_of_heap hblk];have hj4:j<4:=hj;match j,hj4 with
  | 0,_=>rfl
  | 1,_=>rfl
  | 2,_=>rfl
  | 3,_=>rfl⟩⟩
 have hbl:Below w1 w1 W1:=by rw[←hW1];exact br.alloc lr _
 have hbw:=HB1.out.trans (hbl.mono HB1.out.size);rw[hW1];(with_reducible refine (Eo w.heap.size [] 256 [221,0,237,76] _ W1 (HIM.out.below hbl HIM.out.raw.lt) (HTB.out.below hbw) hrow dc dc).mono ?_);rintro e w2 ⟨k,rfl,him,hk2⟩;have hb2:=bS hbw hbw.size hk2 lr;have HB2:=Hh hb2;have HIM2:=Hh him;have hls:=yX w _ w2 him (HTB.out.below hb2) (fun W hb=>HT.out.below (hb2.trans (hb.mono hb2.size))) dc;rw[Wt] at hls;have HLS:=Hh hls;clear hblk hrow hbl hbw hW1 him hk2 hb2 hls;go_wp2_with fail
 (with_reducible refine HLS.out.mono ?_);rintro e w3 ⟨rfl,hb3⟩;have HB3:=Hh (HB2.out.trans (hb3.mono HB2.out.size));clear hb3;go_wp2_with fail
 go_ret;exact⟨rfl,HB3.out⟩
end
end Go.Proofs.YtoigglljnklhlaaGreatDoor
