/- Joined. -/
import Derived.Test.YtoigglljnklhlaaGreatDoorD18
set_option maxHeartbeats 8000000
set_option maxRecDepth 100000
namespace Go.Proofs.YtoigglljnklhlaaGreatDoor
section
open Go.RowKit Go.Sort
open Go.Proofs.Tryz
theorem Sc (w:World) (hT:TabsA w):Calls prog 256 #[] w fun e w'=>e=.returned (.slice w (Lib.fields opsT).length (Lib.fields opsT).length)∧w'=w.alloc (.cells ((Lib.fields opsT).map fun x=>Value.string ⟨x.toArray⟩).toArray 9):=by
 have h:=iP opsT w hT dc (by decide +kernel);have hl:(⟨opsT.toArray⟩:ByteArray)=⟨#[65,68,67,32,65,68,68,32,65,78,68,32,66,73,84,32,67,65,76,76,32,67,67,70,32,67,80,32,67,80,68,32,67,80,68,82,32,67,80,73,32,67,80,73,82,32,67,80,76,32,68,65,65,32,68,69,67,32,68,73,32,68,74,78,90,32,69,73,32,69,88,32,69,88,88,32,72,65,76,84,32,73,77,32,73,78,32,73,78,67,32,73,78,68,32,73,78,68,82,32,73,78,73,32,73,78,73,82,32,74,80,32,74,82,32,76,68,32,76,68,68,32,76,68,68,82,32,76,68,73,32,76,68,73,82,32,78,69,71,32,78,79,80,32,79,82,32,79,84,68,82,32,79,84,73,82,32,79,85,84,32,79,85,84,68,32,79,85,84,73,32,80,79,80,32,80,85,83,72,32,82,69,83,32,82,69,84,32,82,69,84,73,32,82,69,84,78,32,82,76,32,82,76,65,32,82,76,67,32,82,76,67,65,32,82,76,68,32,82,82,32,82,82,65,32,82,82,67,32,82,82,67,65,32,82,82,68,32,82,83,84,32,83,66,67,32,83,67,70,32,83,69,84,32,83,76,65,32,83,76,76,32,83,82,65,32,83,82,76,32,83,85,66,32,88,79,82]⟩:=rfl;rw[hl] at h;have H:=Hh h;clear h hl;go_enter func256,ntmps256
 go_wp2_with fail
 refine H.out.mono ?_;rintro e w' ⟨rfl,rfl⟩;go_wp2_with fail
 go_ret;exact⟨rfl,rfl⟩
theorem Cr (P:Op3→Bool) (fn:Nat) (fb:Array Value) (v1:Value) (L:List Op3) (w:World) (h1:Row w v1 L.length (opc L)) (hl:L.length≤1000000) (hent:∀ args w,(callFunc fn args).run prog w=.ok (.enter fn args) w)
 (hok:∀ y W,y∈L→Below w w W→Calls prog fn (#[.agg #[y.1,y.2.1,y.2.2]]++fb) W fun e w'=>e=.returned (.bool (P y))∧Below W W w') :
 Calls prog 222 #[v1,.func (.func fn) #[] fb] w fun e w'=>(∃ i:Int,e=.returned (.int .i64 i)∧decide (0≤i)=L.any P)∧Below w w w':=by
 have HRW:=Hh h1;obtain⟨a1,c1,rfl,hc1,_⟩:=h1;have HOK:=Hh hok;clear hok;go_enter func222,ntmps222
 go_wp2_with fail
 go_loopw [5,8] (fun _ i wr=>∃ j:Nat,j≤L.length∧i=.int .i64 j∧Below w w wr∧Hid ((L.take j).any P=false)) (fun _ i _=>L.length - (intOf i).toNat)
 case atStart=>exact⟨0,Qi _,rfl,Below.refl _ _,Hh sm⟩
 case round =>
  obtain⟨j,hj,rfl,hbel,Hno⟩:=hrel;have HBEL:=Hh hbel;clear hbel;by_cases hlt:j<L.length
  · obtain⟨y,hy⟩:∃ y,L[j]? = some y:=⟨_,Qb hlt⟩;obtain⟨_,_,hv,_,hc⟩:=(HRW.out.below HBEL.out).op;cases hv
    obtain⟨g,o,rfl,hg,hc⟩:=hc (by intro e;rw[e] at hlt;exact absurd hlt (Qw _))
    obtain⟨k0,k1,k2⟩:=hc j y hy;clear hc;have hi0:(0:Int)≤(j:Int):=om
    have hi1:(j:Int)<(L.length:Int):=om
    have hsz:w.heap.size≤wr.heap.size:=HBEL.out.size;have hmem:y∈L:=Qu hy;have hcall:=HOK.out y wr hmem HBEL.out;obtain⟨r,hr⟩:∃ r,P y=r:=⟨_,rfl⟩;rw[hr] at hcall;have HCALL:=Hh hcall;clear hcall;have HR:=Hh hr;clear hr;have HY:=Hh hy;clear hy;have HM:=Hh hmem;clear hmem;go_wp2_with fail
    refine HCALL.out.mono ?_;rintro e w1 ⟨rfl,hb⟩;have HB:=Hh (HBEL.out.trans (hb.mono hsz));clear hb;cases r with
    | true =>
      go_wp2_with fail
      go_ret;exact⟨⟨j,rfl,by rw[Qh hi0];exact (Xx.2 ⟨y,HM.out,HR.out⟩).symm⟩,HB.out⟩
    | false =>
      go_wp2_with fail
      go_roundw
      case rel=>exact⟨j+1,om,by go_num,HB.out,Hh (by rw[Qo,HY.out];simp[Hno.out,HR.out])⟩
      case measure=>simp[intOf];omega
  · obtain rfl:j=L.length:=om
    have hno:L.any P=false:=by have:=Hno.out;rwa [Qy] at this
    have HNO:=Hh hno;clear hno;go_wp2_with fail
    go_ret;exact⟨⟨-1,rfl,by rw[HNO.out];rfl⟩,HBEL.out⟩
theorem tX (P:Op3→Bool) (fn:Nat) (fb:Array Value) (v1:Value) (L:List Op3) (w:World) (h1:Row w v1 L.length (opc L)) (hl:L.length≤1000000) (hent:∀ args w,(callFunc fn args).run prog w=.ok (.enter fn args) w)
 (hok:∀ y W,y∈L→Below w w W→Calls prog fn (#[.agg #[y.1,y.2.1,y.2.2]]++fb) W fun e w'=>e=.returned (.bool (P y))∧Below W W w') :
 Calls prog 235 #[v1,.func (.func fn) #[] fb] w fun e w'=>e=.returned (.bool (L.any P))∧Below w w w':=by
 have hc:=Cr P fn fb v1 L w h1 hl hent hok;have HC:=Hh hc;clear hc h1 hok;go_enter func235,ntmps235
 go_wp2_with fail
 refine HC.out.mono ?_;rintro e w1 ⟨⟨i,rfl,hi⟩,hb⟩;have HI:=Hh hi;clear hi;have HB:=Hh hb;clear hb;go_wp2_with fail
 go_ret;exact⟨by rw[←HI.out];rfl,HB.out⟩
theorem Cs (r:Bool) (fn:Nat) (fb:Array Value) (g:Nat) (m:List UInt8) (v:Value) (w:World) (h1:Row w (.slice g 1 1) 1 [.string ⟨m.toArray⟩,v]) (hent:∀ args w,(callFunc fn args).run prog w=.ok (.enter fn args) w)
 (hok:Calls prog fn (#[eU m v]++fb) w fun e w'=>e=.returned (.bool r)∧Below w w w') :
 Calls prog 199 #[.slice g 1 1,.func (.func fn) #[] fb] w fun e w'=>(∃ i:Int,e=.returned (.int .i64 i)∧decide (0≤i)=r)∧Below w w w':=by
 obtain⟨_,_,hv,_,hc⟩:=h1;cases hv
 obtain⟨g',o',he,hg,hc⟩:=hc sm;cases he
 have k0:=hc 0 sm;have k1:=hc 1 sm;simp only[Xu,Xb,Zg,Zh] at k0 k1;have HOK:=Hh hok;clear hok hc;go_enter func199,ntmps199
 go_wp2_with fail
 go_loopw [5,8] (fun _ i wr=>(i=.int .i64 0∧wr=w)∨(i=.int .i64 1∧r=false∧Hid (Below w w wr))) (fun _ i _=>1 - (intOf i).toNat)
 case atStart=>exact .inl ⟨rfl,rfl⟩
 case round =>
  rcases hrel with⟨rfl,rfl⟩|⟨rfl,rfl,HB⟩
  · go_wp2_with fail
    refine HOK.out.mono ?_;rintro e w1 ⟨rfl,hb⟩;have HB:=Hh hb;clear hb;cases r with
    | true =>
      go_wp2_with fail
      go_ret;exact⟨⟨0,rfl,rfl⟩,HB.out⟩
    | false =>
      go_wp2_with fail
      go_roundw
      case rel=>exact .inr ⟨by go_num,by trivial,HB⟩
      case measure=>simp[intOf]
  · go_wp2_with fail
    go_ret;exact⟨⟨-1,rfl,rfl⟩,HB.out⟩
theorem tY (r:Bool) (fn:Nat) (fb:Array Value) (g:Nat) (m:List UInt8) (v:Value) (w:World) (h1:Row w (.slice g 1 1) 1 [.string ⟨m.toArray⟩,v]) (hent:∀ args w,(callFunc fn args).run prog w=.ok (.enter fn args) w)
 (hok:Calls prog fn (#[eU m v]++fb) w fun e w'=>e=.returned (.bool r)∧Below w w w') :
 Calls prog 158 #[.slice g 1 1,.func (.func fn) #[] fb] w fun e w'=>e=.returned (.bool r)∧Below w w w':=by
 have hc:=Cs r fn fb g m v w h1 hent hok;have HC:=Hh hc;clear hc h1 hok;go_enter func158,ntmps158
 go_wp2_with fail
 refine HC.out.mono ?_;rintro e w1 ⟨⟨i,rfl,hi⟩,hb⟩;have HI:=Hh hi;clear hi;have HB:=Hh hb;clear hb;go_wp2_with fail
 go_ret;exact⟨by rw[←HI.out];rfl,HB.out⟩
end
section
open Go.RowKit Go.Sort
open Go.ChangeMaps
open Go.Proofs.Tryz
theorem Fo (w:World):(zeroValue 4).run prog w=.ok (.bool false) w:=by kernel_rfl
theorem Sk (w:World):(Instr.makeMap 295 none).run prog w=.ok (.map (some w.heap.size)) (w.alloc (.map #[] 0)):=by simp[Instr.makeMap]
theorem Rg (w:World) (hT:TabsA w):Calls prog 234 #[] w fun e w'=>∃ b,e=.returned (.map (some b))∧SMap w' b (nP opsL)∧w.heap.size≤b∧Below w w w':=by
 have hmk:=Sk;have hops:=fun W (hb:Below w w W)=>Sc W (hT.below hb);rw[yJ] at hops;have hlen:=Mx;obtain⟨L,hL⟩:∃ L,opsL=L:=⟨_,rfl⟩;rw[hL] at hops hlen ⊢;clear hL;have HOPS:=Hh hops;clear hops;have hlenI:(L.length:Int)=68:=om
 go_enter func234,ntmps234
 go_wp2_with fail
 refine (HOPS.out _ (bl)).mono ?_;rintro e w1 ⟨rfl,hw1⟩;have hb1:Below w w w1:=by rw[hw1];exact (br.alloc lr _).alloc sm _
 have hm1:SMap w1 w (nP (L.take 0)):=by rw[hw1];exact (SMap.new (by show (w.heap.push _)[_]? = _;simp)).alloc _
 have hr1:w1.heap[w.heap.size+1]? = some (.cells (L.map fun x=>Value.string ⟨x.toArray⟩).toArray 9 (0,0)):=by
  rw[hw1]
  have:=aF (w.alloc (.map #[] 0)) (.cells (L.map fun x=>Value.string ⟨x.toArray⟩).toArray 9)
  rwa [Qa] at this
 have hsz:(w.alloc (.map #[] 0)).heap.size=w.heap.size+1:=by simp
 rw[hsz];have HM:=Hh hm1;have HR:=Hh hr1;have HB:=Hh hb1;clear hm1 hr1 hb1 hw1 hsz;go_wp2_with fail
 go_loopw [7] (fun i wr=>∃ j:Nat,j≤L.length∧i=.int .i64 j∧Hid (SMap wr w (nP (L.take j)))∧Hid (wr.heap[w.heap.size+1]? = some (.cells (L.map fun x=>Value.string ⟨x.toArray⟩).toArray 9 (0,0)))∧Hid (Below w w wr)) (fun i _=>L.length - (intOf i).toNat)
 case atStart=>exact⟨0,Qi _,rfl,HM,HR,HB⟩
 case round =>
  obtain⟨j,hj,rfl,HM2,HR2,HB2⟩:=hrel;by_cases hlt:j<L.length
  · obtain⟨x,hx⟩:∃ x,L[j]? = some x:=⟨_,Qb hlt⟩;have hcy:wr.cell? ⟨w+1,j,none⟩=some (.string ⟨x.toArray⟩):=by
     rw[aC HR2.out];simp[hx]
    have htk:L.take (j+1)=L.take j++[x]:=by rw[Qo,hx];rfl
    have HTK:=Hh htk;clear htk hx;have hi0:(0:Int)≤(j:Int):=om
    have hi1:(j:Int)<(L.length:Int):=om
    have hi2:(j:Int)<68:=om
    clear hlenI;go_wp2_with (at_mapUpdate;refine xJ rfl _ _ _ 295 rfl 9 4 underlying295 underlying9 w (nP (L.take j)) ⟨x.toArray⟩ (.bool true) rfl rfl rfl HM2.out ?_)
    intro w3 hm3 hk3 hz3;have hm4:SMap w3 w (nP (L.take (j+1))):=by rw[HTK.out,Gb];exact hm3
    have hr4:w3.heap[w.heap.size+1]? = some (.cells (L.map fun x=>Value.string ⟨x.toArray⟩).toArray 9 (0,0)):=(hk3.block _ (aA HR2.out) om).trans HR2.out;have hb4:Below w w w3:=HB2.out.trans ⟨hk3.os,hk3.tape,hk3.output,hk3.size,fun k hk=>hk3.block k (Qj hk HB2.out.size) om⟩;have HM4:=Hh hm4;have HR4:=Hh hr4;have HB4:=Hh hb4;clear hm3 hk3 hz3 hm4 hr4 hb4;go_wp2_with fail
    go_roundw
    case rel=>exact⟨j+1,om,by go_num,HM4,HR4,HB4⟩
    case measure=>simp[intOf];omega
  · obtain rfl:j=L.length:=om
    have hm5:=HM2.out;rw[Qy] at hm5;have HM5:=Hh hm5;clear hm5;go_wp2_with fail
    go_ret;exact⟨_,rfl,HM5.out,Qk _,HB2.out⟩
theorem Lp {W:World} {b:Nat} (h:SMap W b (nP opsL)) (s:ByteArray):(Instr.lookup 295 (.map (some b)) (.string s) false).run prog W=.ok (.bool (decide (s.data.toList∈opsL))) W:=by
 have hlk:=Mb (P:=prog) underlying295 underlying9 Fo h s false;rw[Gc] at hlk;exact hlk
theorem Ds (m:List UInt8) (v:Value) (l:List Op3) (w:World) (hT:TabsA w) (hr:Row w v l.length (opc l)) (hl:l.length≤1000000) (D A:Bool) (hD:decide (m∈opsL)=D) (hA:(l.any fun o=>!bP o.1 o.2.1 o.2.2)=A) :
 Calls prog 200 #[eU m v] w fun e w'=>e=.returned (.int .i64 (if D=false then 12 else if 3<l.length then 11 else if A=true then 2 else 0))∧Below w w w':=by
 obtain⟨R,hR⟩:∃ R:Int,(if D=false then 12 else if 3<l.length then 11 else if A=true then 2 else 0)=R:=⟨_,rfl⟩;rw[hR];have HRR:=Hh hR;clear hR;have hset:=fun W (hb:Below w w W)=>Rg W (hT.below hb);have hlook:=fun W b (h:SMap W b (nP opsL))=>Lp h ⟨m.toArray⟩;have hD2:decide ((⟨m.toArray⟩:ByteArray).data.toList∈opsL)=D:=hD;rw[hD2] at hlook;generalize nP opsL=M at *;have hcf:=fun W (hb:Below w w W)=>tX (fun o=>!bP o.1 o.2.1 o.2.2) 236 #[] v l W (hr.below hb) hl (enters_of func236 kr rfl) (fun y X _ _=>Dt y X);rw[hA] at hcf;have HSET:=Hh hset;clear hset;have HLOOK:=Hh hlook;clear hlook;have HCF:=Hh hcf;clear hcf;clear hD hD2 hA;obtain⟨a,c,rfl,_,_⟩:=hr;go_enter func200,ntmps200
 go_wp2_with fail
 obtain⟨W,hW⟩:∃ W,(w.alloc (.cells #[m,.slice a l.length c] 53))=W:=⟨_,rfl⟩;have hbW:Below w w W:=by rw[←hW];exact br.alloc lr _
 have hsz:W.heap.size=w.heap.size+1:=by rw[←hW];simp
 have h0:W.heap[w.heap.size]? = some (.cells #[m,.slice a l.length c] 53 (0,0)):=by rw[←hW];exact aF _ _
 rw[hW];clear hW;obtain⟨t0,t1,_,_⟩:=aL h0;have hl0:w.heap.size<W.heap.size:=om
 have HBW:=Hh hbW;have HSZ:=Hh hsz;have hK:∀ X,Below W W X→X.cell? w=some (.string ⟨m.toArray⟩)∧X.cell? ⟨w,1,none⟩=some (.slice a l.length c):=fun X hb =>
  ⟨(hb.cell (p:=w) hl0).trans t0,(hb.cell (p:=⟨w,1,none⟩) hl0).trans t1⟩
 have HK:=Hh hK;clear hbW hsz h0 hK;have hd:Below W W W.drew:=bl;have hd2:Below w w W.drew:=HBW.out.trans (hd.mono HBW.out.size);go_region_held3 (fun w'=>w'.cell? w=some (.string ⟨m.toArray⟩)∧w'.cell? ⟨w,1,none⟩=some (.slice a l.length c)) (first|exact⟨t0,t1⟩|exact K4) (first|((with_reducible refine (HSET.out _ hd2).mono ?_);rintro e w4 ⟨b4,rfl,hm4,_,hb4⟩;have hbw4:Below W W w4:=hd.trans hb4;have K4:=HK.out w4 hbw4;have hlk4:=HLOOK.out w4 b4 hm4))
 have HB5:=Hh (HBW.out.trans (hbw4.mono HBW.out.size));obtain⟨q0,q1⟩:=K4;have hcf4:=HCF.out _ HB5.out;have HCF4:=Hh hcf4;clear hcf4 hd hd2 hbw4 hb4 hm4 hlk4 t0 t1 hl0;cases D with
 | false =>
   go_wp2_with fail
   go_ret;exact⟨by rw[←HRR.out];rfl,HB5.out⟩
 | true =>
   by_cases h3:3<l.length
   · have h3i:(3:Int)<(l.length:Int):=om
     have H3:=Hh h3;clear h3;go_wp2_with fail
     go_ret;exact⟨by rw[←HRR.out,if_neg dc,if_pos H3.out];rfl,HB5.out⟩
   · have h3i:¬ (3:Int)<(l.length:Int):=om
     have H3:=Hh h3;clear h3;go_wp2_with fail
     refine HCF4.out.mono ?_;rintro e w6 ⟨rfl,hb6⟩;have HB6:=Hh (HB5.out.trans (hb6.mono HB5.out.size));clear hb6;cases A with
     | true =>
       go_wp2_with fail
       go_ret;exact⟨by rw[←HRR.out,if_neg dc,if_neg H3.out];rfl,HB6.out⟩
     | false =>
       go_wp2_with fail
       go_ret;exact⟨by rw[←HRR.out,if_neg dc,if_neg H3.out];rfl,HB6.out⟩
theorem tF (m:List UInt8) (v:Value) (l:List Op3) (w:World) (hT:TabsA w) (hr:Row w v l.length (opc l)) (hl:l.length≤1000000) :
 Calls prog 200 #[eU m v] w fun e w'=>e=.returned (.int .i64 (iR (m,l)))∧Below w w w':=by
 have h:=Ds m v l w hT hr hl _ _ rfl rfl;have e:iR (m,l)=if decide (m∈opsL)=false then 12 else if 3<l.length then 11 else if (l.any fun o=>!bP o.1 o.2.1 o.2.2)=true then 2 else 0:=by
  unfold iR;by_cases h:m∈opsL<;>simp[h]
 rw[e];exact h
end
end Go.Proofs.YtoigglljnklhlaaGreatDoor
