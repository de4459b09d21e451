/- Joined. -/
import Derived.Test.YtoigglljnklhlaaGreatDoorD39
set_option maxHeartbeats 8000000
set_option maxRecDepth 100000
namespace Go.Proofs.YtoigglljnklhlaaGreatDoor
section
open Go.RowKit Go.Sort Go.Shelf
abbrev mkD (D:Nat):Deferred:={ target:=.collected D,args:=#[] }
theorem pK {F:Fence} {n:Nat} {P:Program} {fn:Func} {tmps:Array Value} {R:Ending→World→Prop} (B:Nat):∀ (ds:List Nat) (w:World),B≤w.heap.size→(∀ D∈ds,B≤D∧w.heap[D]? = some (.deferred (some [])))→ds.Nodup →
 (∀ w',fV 0 w w'→Below B w w'→LeavesInM F n P fn tmps R [] .returning w')→LeavesInM F n P fn tmps R (ds.map mkD) .returning w
 | [],w,hB,_,_,h=>h w ⟨Qk _,fun _ _ _ h _=>h⟩ br
 | D::ds,w,hB,hd,hn,h=>by
   obtain⟨h1,h2⟩:=hd D (Qq ..);have hk:=cC (b:=0) w D _ (.deferred none) h2 rfl;have hb:Below B w (w.putObj D (.deferred none)):=(Below.refl B w).grown (grownBy_putObj' w D _) (by have:=aA h2;omega) (fun k e=>by cases e;exact h1);have hnd:=Zv.1 hn;refine⟨by simp,.inl ⟨D,w.putObj D (.deferred none),rfl,run_takeDeferred h2,?_⟩⟩
   refine pK B ds _ (Qn hB hb.size) (fun E hE=>⟨(hd E (Qv _ hE)).1,?_⟩) hnd.2 (fun w' k1 k2=>h w' (wM hk k1) (hb.trans k2));exact (World.putObj_heap_other (fun e:E=D=>hnd.1 (by rw[←e];exact hE))).trans (hd E (Qv _ hE)).2
theorem aJt {B b:Nat} {bs:List Value} {W W':World} (h:IsB B b bs W) (hk:fV 0 W W'):IsB B b bs W':=by
 rcases h with⟨h1,v,h2,h3,h4⟩|⟨h1,v,h2,h3,h4⟩
 · exact .inl ⟨h1,v,hk.2 _ _ (Qi _) h2 rfl,lD h3 (gK hk) (Qi _),h4⟩
 · exact .inr ⟨h1,v,hk.2 _ _ (Qi _) h2 rfl,lD h3 (gK hk) (Qi _),h4⟩
theorem Lx {B b:Nat} {bs:List Value} {W W':World} (h:IsB B b bs W) (hk:fV 0 W W') (k:Nat) (hs:SB b W' k):SB b W k:=by
 rcases h with⟨_,v,h2,_⟩|⟨_,v,h2,_⟩<;>exact (fY h2 k).2 ((fY (hk.2 _ _ (Qi _) h2 rfl) k).1 hs)
theorem WrI.keepC {b n1:Nat} {w2 W W':World} {t:List UInt8} (h:WrI b n1 w2 t W) (hk:fV 0 W W'):WrI b n1 w2 t W' :=
 ⟨aJt h.bu hk,fun k hs=>h.buf k (Lx h.bu hk k hs),fun k o h1 ho hc=>hk.2 k o (Qi _) (h.kept k o h1 ho hc) hc,Qn h.size hk.1⟩
structure WvInv (tx:Nat→It→ByteArray) (F B n1:Nat) (w w2:World) (R:List Rn) (j:Nat) (ds:List Nat) (W:World):Prop where
 wr:WrI (B+1) n1 w2 (eD tx (R.take j)) W
 st:W.heap[B]? = some (.cells #[.func (.func F) #[] #[]] 71 (0,0))
 marks:∀ D∈ds,B≤D∧W.heap[D]? = some (.deferred (some []))
 nodup:ds.Nodup
 below:Below B w W
theorem WvInv.below' {tx:Nat→It→ByteArray} {F B n1:Nat} {w w2:World} {R:List Rn} {j:Nat} {ds:List Nat} {W W':World} (h:WvInv tx F B n1 w w2 R j ds W) (hb:Below W W W'):WvInv tx F B n1 w w2 R j ds W' :=
 ⟨h.wr.below hb,aB h.st hb (aA h.st),fun D hD=>⟨(h.marks D hD).1,aB (h.marks D hD).2 hb (aA (h.marks D hD).2)⟩,h.nodup,h.below.trans (hb.mono (Xr (aA h.st)))⟩
theorem Jq {b n1 D:Nat} {w2 W:World} {t:List UInt8} {o:Obj} (h:WrI b n1 w2 t W) (ho:W.heap[D]? = some o) (hc:o.isCells=false):¬ SB b W D:=fun hs=>by
 obtain⟨o',h1,h2⟩:=xU h.bu D hs;rw[ho] at h1;cases h1;rw[hc] at h2;cases h2
structure aBF (F B:Nat) (w:World) (ds:List Nat) (W:World):Prop where
 st:W.heap[B]? = some (.cells #[.func (.func F) #[] #[]] 71 (0,0))
 marks:∀ D∈ds,B≤D∧W.heap[D]? = some (.deferred (some []))
 below:Below B w W
theorem WvInv.kpA {tx:Nat→It→ByteArray} {F B n1:Nat} {w w2:World} {R:List Rn} {j:Nat} {ds:List Nat} {W W':World} (h:WvInv tx F B n1 w w2 R j ds W) (_hB:B+1<n1) (hn:B<w2) (hk:KpA (SB (B+1)) W W') (hb:Below B W W'):aBF F B w ds W' :=
 ⟨hk.2.1 _ _ h.st (fun hs=>by rcases h.wr.buf B hs with h1|h1<;>omega),fun D hD=>⟨(h.marks D hD).1,hk.2.1 _ _ (h.marks D hD).2 (Jq h.wr (h.marks D hD).2 rfl)⟩,h.below.trans hb⟩
structure WvIn (tx:Nat→It→ByteArray) (F B n1:Nat) (w w2:World) (t0:List UInt8) (pre:List AdX) (ds:List Nat) (top:Nat) (W:World):Prop where
 wr:WrI (B+1) n1 w2 (t0++mJ tx (pre.map fun x=>(x.1,x.2.1))) W
 st:W.heap[B]? = some (.cells #[.func (.func F) #[] #[]] 71 (0,0))
 marks:∀ D∈ds,B≤D∧D<top∧W.heap[D]? = some (.deferred (some []))
 below:Below B w W
 small:(mJ tx (pre.map fun x=>(x.1,x.2.1))).length≤pre.length*2000000
 top:top≤W.heap.size
theorem WvIn.keepC {tx:Nat→It→ByteArray} {F B n1:Nat} {w w2:World} {t0:List UInt8} {pre:List AdX} {ds:List Nat} {top:Nat} {W W':World} (h:WvIn tx F B n1 w w2 t0 pre ds top W) (hk:fV 0 W W') (hm:∀ D∈ds,W'.heap[D]? = some (.deferred (some []))) (hb:Below B w W'):WvIn tx F B n1 w w2 t0 pre ds top W' :=
 ⟨h.wr.keepC hk,hk.2 _ _ (Qi _) h.st rfl,fun D hD=>⟨(h.marks D hD).1,(h.marks D hD).2.1,hm D hD⟩,hb,h.small,Qn h.top hk.1⟩
theorem Ra {tx:Nat→It→ByteArray} {F B n1:Nat} {w w2:World} {t0:List UInt8} {pre:List AdX} {ds:List Nat} {top:Nat} {W W4:World} {a0:Nat} {x:It} {vr va:Value} (hn:B<w2) (h:WvIn tx F B n1 w w2 t0 pre ds top W) (hk:KpA (SB (B+1)) W W4)
 (hwr:WrI (B+1) n1 w2 (t0++mJ tx (pre.map fun x=>(x.1,x.2.1))++lnG tx a0 x) W4) (hb:Below B W W4) (hs:(tx a0 x).size≤1900000) :
 KeepsOthers W W4∧KpS (SB (B+1)) W W4∧WvIn tx F B n1 w w2 t0 (pre++[(a0,x,vr,va)]) ds top W4:=by
 have he:mJ tx ((pre++[(a0,x,vr,va)]).map fun x=>(x.1,x.2.1))=mJ tx (pre.map fun x=>(x.1,x.2.1))++lnG tx a0 x:=by
  rw[Ym];exact Hp tx _ (a0,x)
 refine⟨Co h.wr.bu hk,Vt hk,by rw[he,←Yc];exact hwr,hk.2.1 _ _ h.st (fun hs=>by rcases h.wr.buf B hs with h1|h1<;>omega),fun D hD=>⟨(h.marks D hD).1,(h.marks D hD).2.1,hk.2.1 _ _ (h.marks D hD).2.2 (Jq h.wr (h.marks D hD).2.2 rfl)⟩,h.below.trans hb,?_,Qn h.top hk.1⟩
 rw[he,Qc,Eu,Qc,Xw]
 have:=h.small
 omega
theorem Mw (a:Nat):(tS a).length=5+(aX (a:Int)).size+1:=by
 unfold tS;rw[Qc,Qc,Xv];rfl
theorem Fp {tx:Nat→It→ByteArray} (ht:TxS tx) (R:List Rn) (j:Nat) (hR:∀ r∈R,r.2.length≤60000∧r.1<65536) (hl:R.length≤60000):(eD tx (R.take j)).length≤78000000000000:=by
 have h1:=rH (tx:=tx) (R.take j) (fun r hr=>Md ht r (hR r (List.mem_of_mem_take hr)).1 (by have:=nD (r.1:Int);omega))
 have h2:(R.take j).length*1300000000≤60000*1300000000:=Ze _ (by rw[Qt];omega);omega
theorem uF:TxS (fun _ x=>dH x):=fun a x hx=>by
 have:=Cp x hx
 dsimp only;omega
end
section
open Go.RowKit Go.Sort
open Go.Proofs.Tryz
theorem aNp {C:List Cl} {L:List Int} {j:Nat} {a:Int} (h:L[j]? = some a):aLd C (L.take j)++((aLi a (bX (aKz C a 4))++⟨#[10]⟩:ByteArray)).data.toList=aLd C (L.take (j+1)):=by
 simp[aLd,aOj,Qo,h]
theorem aMh (b:Nat) (C:List Cl) (S L:List Int) (u:Value) (w:World) (hIm:ImgAt b C w) (hT:∀ W,Below w w W→TabsA W) (hu:eR w u S.length (aBQ S)) (hS:∀ a∈S,-100000≤a∧a≤100000) (hSl:S.length≤1000) (hCl:C.length≤60000) (hL:HitL C S L) :
 Calls prog 20 #[.pointer b,u] w fun e w'=>e=.returned (aLd C L)∧Below w w w':=by
 have HR:=Hh (fun W (hb:Below w w W)=>aMG b C S L u W (hIm.below hb hIm.raw.lt) (fun W' hb'=>hT W' (hb.trans (hb'.mono hb.size))) (aHz hu hb) hS hSl hCl hL);have HIT:=Hh (fun a W (hb:Below w w W) (h:a∈L)=>by
  have h2:=aMJ hIm.asc ((hL.2 a).1 h).is;exact aLX b C a W (hIm.below hb hIm.raw.lt) (fun W' hb'=>hT W' (hb.trans (hb'.mono hb.size))) om om)
 have HRW:=Hh (fun a vr va B0 W (hb:Below w w W) (hI:ItAt B0 (bX (aKz C a 4)) vr va W)=>aNT a (bX (aKz C a 4)) vr va B0 W (fun W' hb'=>hT W' (hb.trans (hb'.mono hb.size))) hI (Ik _) (by have h1:=aKN (aKz C a 4);have h2:=aKF C 4 a;omega))
 have hLl:L.length≤60000:=Qn hL.len hCl;have HSZ:=Hh (fun j=>aLD C (L.take j));have HLL:=Hh hLl;have hus:∃ a n c,u=.slice a n c:=by
  rcases hu with⟨_,h⟩|⟨ad,c,h,_⟩
  · exact⟨_,_,_,h⟩
  · exact⟨_,_,_,h⟩
 obtain⟨au,nu,cu,rfl⟩:=hus;clear hu hT hIm hS hSl hCl hL hLl;go_enter func20,ntmps20
 go_wp2_with fail
 obtain⟨w1,hw1⟩:∃ w1,w.alloc (.cells #[.pointer none,zz] 77)=w1:=⟨_,rfl⟩;have hb1:Below w w w1:=by rw[←hw1];exact bl
 have hs1:w1.heap.size=w.heap.size+1:=by rw[←hw1];simp
 have hbk1:w1.heap[w.heap.size]? = some (.cells #[.pointer none,zz] 77 (0,0)):=by rw[←hw1];exact aF _ _
 rw[hw1];clear hw1;have HBK:=Hh hbk1;have HB1:=Hh hb1;have HS1:=Hh hs1;clear hb1 hbk1 hs1;(with_reducible refine (HR.out _ HB1.out).mono ?_);rintro e w2 ⟨v,rfl,hrow,hb2⟩;have hbk2:=aB HBK.out hb2 (aA HBK.out);have HROW:=Hh hrow;have hW2:WrI w w1.heap.size w2 [] w2:=⟨.inl ⟨Qk _,_,hbk2,Xa _ _ _ _,by simp[Value.ownBlock]⟩,(fun k hk=>((fY hbk2 k).1 hk).elim .inl (fun h=>absurd h (by simp[Value.ownBlock]))),fun _ _ _ ho _=>ho,Qk _⟩
 have HW2:=Hh hW2;have HB2:=Hh (HB1.out.trans (hb2.mono HB1.out.size));obtain⟨av,cv,rfl⟩:=aI hrow;have hcv:=(Row.of_owns hrow);obtain⟨_,_,hv0,hcap,_⟩:=hcv;cases hv0
 have hcc:(L.length:Int)≤(cv:Int):=om
 clear hb2 hbk2 hrow hW2 hcap;go_wp2_with fail
 go_loopw [14] (fun i wr=>∃ j:Nat,j≤L.length∧i=.int .i64 j∧Hid (WrI w w1.heap.size w2 (aLd C (L.take j)) wr)∧Hid (Below w w wr)) (fun i _=>L.length - (intOf i).toNat)
 case atStart=>exact⟨0,Qi _,rfl,HW2,HB2⟩
 case round =>
  obtain⟨j,hj,rfl,HW,HB⟩:=hrel;by_cases hlt:j<L.length
  · obtain⟨a,ha⟩:∃ a,L[j]? = some a:=⟨_,Qb hlt⟩;have hro:=lD HROW.out HW.out.kept lr;obtain⟨_,_,hv0,_,hh⟩:=Row.of_owns hro;cases hv0
    obtain⟨g,o,rfl,hg,hcs⟩:=hh (by intro e;have h1:=congrArg List.length e;rw[aBQ,Qs,Qz] at h1;omega);have k0:wr.cell? ⟨g,o+j,none⟩=some (.int .i64 a):=by
     have:=hcs j (by simp[aBQ];exact hlt)
     rw[this];simp[aBQ,ha]
    have hi0:(0:Int)≤(j:Int):=om
    have hi1:(j:Int)<(L.length:Int):=om
    have hll:=HLL.out;have hit:=HIT.out a wr HB.out (Qu ha);have htn:=aNp (C:=C) ha;have hts:=HSZ.out j;have hrs:=aLt C a;have HITX:=Hh hit;have HTN:=Hh htn;have HTS:=Hh hts;have HRS:=Hh hrs;clear hh hcs hro hg ha hit htn hts hrs;go_wp2_with fail
    (with_reducible refine HITX.out.mono ?_);rintro e w3 ⟨vr,va,rfl,hia,hb3⟩;have HB3:=Hh (HB.out.trans (hb3.mono HB.out.size));have HIA:=Hh hia;have HW3:=Hh (HW.out.below hb3);have HRX:=Hh (fun W (hb:Below w3 w3 W)=>HRW.out a vr va _ W (HB3.out.trans (hb.mono HB3.out.size)) (hia.below hb));obtain⟨x,hx⟩:∃ x,bX (aKz C a 4)=x:=⟨_,rfl⟩;obtain⟨R0,hR0⟩:∃ s,aLi a (bX (aKz C a 4))=s:=⟨_,rfl⟩;rw[hR0] at HTN HRS HRX;rw[hx] at HIA HRX ⊢;clear hb3 hia hx hR0 k0;obtain⟨ki,ra,⟨im,ia⟩,ial⟩:=x;obtain⟨ar,cr,rfl⟩:=aI HIA.out.raw;obtain⟨aa,ca,rfl⟩:=aI HIA.out.args.own;dsimp only[itV] at HIA HRX ⊢;go_wp2_with fail
    obtain⟨W4,hW4⟩:∃ W,w3.alloc (.cells #[ki,.slice ar ra.length cr,im,.slice aa ia.length ca,.bool ial] 55)=W:=⟨_,rfl⟩;have hb4:Below w3 w3 W4:=by rw[←hW4];exact br.alloc lr _
    have hx4:W4.heap[w3.heap.size]? = some (.cells #[ki,.slice ar ra.length cr,im,.slice aa ia.length ca,.bool ial] 55 (0,0)):=by rw[←hW4];exact aF _ _
    rw[hW4];obtain⟨⟨p0,p1,p2,p3,p4⟩,_⟩:=bJ hx4;have hl4:=aA hx4;have HX4:=Hh hx4;have HW4:=Hh (HW3.out.below hb4);have HB4:=Hh (HB3.out.trans (hb4.mono HB3.out.size));have HRY:=Hh (HRX.out W4 hb4);clear hW4 hb4 hx4;go_wp2_with fail
    (with_reducible refine HRY.out.mono ?_);rintro e w5 ⟨rfl,hb5⟩;have HW5:=Hh (HW4.out.below hb5);have HB5:=Hh (HB4.out.trans (hb5.mono HB4.out.size));clear hb5;have hrs:=HRS.out;go_wp2_with fail
    have hsz:(aLd C (L.take j)).length+(R0++(⟨#[10]⟩:ByteArray)).size≤140737488355328:=by
     rw[Qm];have h1:=HTS.out;have h2:=HRS.out;have h3:=HLL.out;rw[Qt] at h1
     have:min j L.length*100001≤60000*100001:=Ze _ om
     show _+(_+1)≤_
     omega
    (with_reducible refine (rG _ _ _ _ _ w5 HW5.out (by have:=HS1.out;omega) hsz).mono ?_);rintro e w6 ⟨rfl,hwr6,hb6,_⟩;rw[HTN.out] at hwr6;have HW6:=Hh hwr6;have HB6:=Hh (HB5.out.trans hb6);clear hwr6 hb6;go_wp2_with fail
    go_roundw
    case rel=>exact⟨j+1,om,by go_num,HW6,HB6⟩
    case measure=>simp[intOf];omega
  · obtain rfl:j=L.length:=om
    have hWR:=HW.out;rw[Qy] at hWR;have HS:=Hh (Tryz.Builder_String_any w w.heap.size _ wr hWR.bu (Xr (lP hWR.bu)));clear hWR;go_wp2_with fail
    (with_reducible refine HS.out.mono ?_);rintro e w9 ⟨rfl,hb9⟩;have HB9:=Hh (HB.out.trans hb9);clear hb9;go_wp2_with fail
    go_ret;exact⟨rfl,HB9.out⟩
end
end Go.Proofs.YtoigglljnklhlaaGreatDoor
