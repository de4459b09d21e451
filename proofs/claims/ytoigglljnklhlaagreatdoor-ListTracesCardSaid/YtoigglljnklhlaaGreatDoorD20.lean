/- Joined. -/
import Derived.Test.YtoigglljnklhlaaGreatDoorD16
import Derived.Test.YtoigglljnklhlaaGreatDoorD19
set_option maxHeartbeats 8000000
set_option maxRecDepth 100000
namespace Go.Proofs.YtoigglljnklhlaaGreatDoor
section
open Go.RowKit Go.Sort
open Go.Proofs.Tryz
theorem mF (l s:List UInt8) (w:World) (hT:TabsA w) (hl:l.length≤1000) (ha:l.all (fun b=>decide (b.toNat<128))=true) (hf:(Lib.fields l).length≤1000) :
 Calls prog 204 #[l,s] w fun e w'=>e=.returned (.bool (decide (s∈Lib.fields l)))∧Below w w w':=by
 have h:=iP l w hT om ha;have hrow:Row (w.alloc (.cells ((Lib.fields l).map fun x=>Value.string ⟨x.toArray⟩).toArray 9)) (.slice w (Lib.fields l).length (Lib.fields l).length) (Lib.fields l).length ((Lib.fields l).map Proofs.encStr):=by
  refine⟨_,_,rfl,Qk _,fun _=>⟨w,0,rfl,by rw[Qa];omega,fun j hj=>?_⟩⟩
  rw[Xb,aC (aF w _)];simp
  try rfl
 have hc:=oQ (Lib.fields l) ⟨s.toArray⟩ _ _ hrow om;obtain⟨D,hD⟩:∃ D,decide (s∈Lib.fields l)=D:=⟨_,rfl⟩;have hD2:decide ((⟨s.toArray⟩:ByteArray).data.toList∈Lib.fields l)=D:=hD;rw[hD2] at hc;rw[hD];clear hD hD2 hrow hf ha;generalize Lib.fields l=F at *;have H:=Hh h;clear h;have HC:=Hh hc;clear hc;go_enter func204,ntmps204
 go_wp2_with fail
 refine H.out.mono ?_;rintro e w' ⟨rfl,rfl⟩;go_wp2_with fail
 refine HC.out.mono ?_;rintro e w' ⟨rfl,rfl⟩;go_wp2_with fail
 go_ret;exact⟨rfl,bl⟩
def aAp:List UInt8:=[83,85,66,32,65,78,68,32,88,79,82,32,79,82,32,67,80]
def aBn:List UInt8:=[65,68,68,32,65,68,67,32,83,66,67]
theorem pZ:Lib.fields aAp=[[83,85,66],[65,78,68],[88,79,82],[79,82],[67,80]]:=by decide +kernel
theorem qO:Lib.fields aBn=[[65,68,68],[65,68,67],[83,66,67]]:=by decide +kernel
theorem iW (m:List UInt8) (w:World) (hT:TabsA w):Calls prog 204 #[.string ⟨#[83,85,66,32,65,78,68,32,88,79,82,32,79,82,32,67,80]⟩,m] w fun e w'=>e=.returned (.bool (decide (m∈([[83,85,66],[65,78,68],[88,79,82],[79,82],[67,80]]:List (List UInt8)))))∧Below w w w':=by
 have h:=mF aAp m w hT dc (by decide +kernel) (by rw[pZ];decide);rw[pZ] at h;exact h
theorem kN (m:List UInt8) (w:World) (hT:TabsA w):Calls prog 204 #[.string ⟨#[65,68,68,32,65,68,67,32,83,66,67]⟩,m] w fun e w'=>e=.returned (.bool (decide (m∈([[65,68,68],[65,68,67],[83,66,67]]:List (List UInt8)))))∧Below w w w':=by
 have h:=mF aBn m w hT dc (by decide +kernel) (by rw[qO];decide);rw[qO] at h;exact h
structure WrAt (w:World) (b N:Nat) (m:List UInt8) (v:Value) (l:List Op3):Prop where
 blk:w.heap[b]? = some (.cells #[.string ⟨m.toArray⟩,v] 228 (0,0))
 row:WRow w N v l.length (opc l)
 ne:v.ownBlock≠some b
theorem WrAt.below {w w':World} {b N:Nat} {m:List UInt8} {v:Value} {l:List Op3} (h:WrAt w b N m v l) (hb:Below w w w'):WrAt w' b N m v l:=⟨aB h.blk hb (aA h.blk),h.row.below hb,h.ne⟩
theorem WRow.tailO {w:World} {b g o cap:Nat} {x:Op3} {l:List Op3} (h:WRow w b (.slice (some ⟨g,o,none⟩) (l.length+1) cap) (l.length+1) (opc (x::l))):WRow w b (.slice (some ⟨g,o+3,none⟩) l.length (cap - 1)) l.length (opc l):=by
 obtain⟨a,c,hv,hn,h⟩:=h;cases hv
 refine⟨_,_,rfl,om,fun hx=>?_⟩
 obtain⟨g',o',he,h0,hg,hc,hf⟩:=h (by show[Value.int .i64 x.1,.int .i64 x.2.1,.int .i64 x.2.2]++opc l≠[];simp);cases he
 have hl:(opc (x::l)).length=3+(opc l).length:=by rw[cG,cG];simp;omega
 refine⟨g,o+3,rfl,h0,hg,fun j hj=>?_,fun j hj=>?_⟩
 · rw[Yb,hc (3+j) om];show ([Value.int .i64 x.1,.int .i64 x.2.1,.int .i64 x.2.2]++opc l)[3+j]? = _
   rw[Yf sm];congr 1
   simp
 · rw[Yb];exact hf (3+j) om
theorem WrAt.put {w:World} {b N:Nat} {m:List UInt8} {v v':Value} {l l':List Op3} (h:WrAt w b N m v l) (hr:WRow w N v' l'.length (opc l')) (hne:v'.ownBlock≠some b):WrAt (w.setCell ⟨b,1,none⟩ v') b N m v' l' :=
 ⟨aG h.blk,hr.kb_ne ((Kb.refl b w).setCell 1 v') (fun _=>hne),hne⟩
theorem aPn (m:List UInt8) (g o c:Nat) (y:Op3) (b N:Nat) (w:World) (hT:TabsA w) (hW:WrAt w b N m (.slice (some ⟨g,o,none⟩) 2 c) [(1,7,0),y]) (hN:N≤b) (hNw:N≤w) (hm:m∈([[83,85,66],[65,78,68],[88,79,82],[79,82],[67,80]]:List (List UInt8))) :
 Calls prog 162 #[.pointer b] w fun e w'=>(∃ u,e=.returned u)∧(∃ v',WrAt w' b N m v' [y])∧Below N w w':=by
 have hsub:=fun W (hb:Below w w W)=>iW m W (hT.below hb);rw[Qh hm] at hsub;have HSUB:=Hh hsub;clear hsub hm;have HW:=Hh hW;have HNN:=Hh hN;have HNW:=Hh hNw;obtain⟨_,_,hv,hcc,hh⟩:=WRow.op hW.row;cases hv
 obtain⟨_,_,he,hg0,hg1,hh⟩:=hh sm;cases he
 obtain⟨k0,k1,k2,f0,f1,f2⟩:=hh 0 (1,7,0) rfl;obtain⟨t0,t1,s0,s1⟩:=aL hW.blk;have hbl:=aA hW.blk;simp only[Yr,Xu] at k0 k1 k2 f0 f1 f2;dsimp only[List.length_cons,List.length_nil] at hcc;have hcc2:(2:Int)≤(c:Int):=om
 clear hh hW hT hN hNw;go_enter func162,ntmps162
 go_wp2_with fail
 refine bO kr kr ?_;repeat (go_big_quiet_step (first|exact eG (HSUB.out _ (bl))))
 refine wpQuiet_nil ?_;rintro W3 ⟨p3,hW3⟩;have hb3:Below w w W3:=by rw[hW3];exact bl
 have hbox:W3.heap[w.heap.size]? = some (.cells #[(1:Int),(7:Int),(0:Int)] 144 (0,0)):=by
  rw[hW3];exact aB (aF w _) (cF _ p3) (by rw[Qa];omega)
 clear hW3 p3;have HW3:=Hh (HW.out.below hb3);have HB3:=Hh hb3;have HBOX:=Hh hbox;clear hb3 hbox;obtain⟨t0',t1',s0',s1'⟩:=aL HW3.out.blk;have hbl3:=aA HW3.out.blk;go_wp2_with fail
 go_end0
 exact⟨⟨_,rfl⟩,⟨_,HW3.out.put (WRow.tailO (x:=(1,7,0)) (l:=[y]) HW3.out.row) HW3.out.ne⟩,(HB3.out.mono HNW.out).setCell (p:=⟨b,1,none⟩) HNN.out _⟩
theorem Ur {w4 w:World} {b N:Nat} {m:List UInt8} {v:Value} {l:List Op3} (h:WrAt w4 b N m v l) (hb:Below w w w4) (hN:N≤b) (hNw:N≤w) (x0 x1 x2:Int) (X:World) (hX:X=(w4.setCell ⟨b,1,none⟩ (.slice w4 2 2)).alloc (.cells #[(1:Int),(7:Int),(0:Int),x0,x1,x2] 144)) :
 WrAt X b N m (.slice w4 2 2) [(1,7,0),(x0,x1,x2)]∧Below N w X:=by
 subst hX;have hlt:=aA h.blk;have hs:=hb.size;have hnew:=aF (w4.setCell ⟨b,1,none⟩ (.slice w4 2 2)) (.cells #[(1:Int),(7:Int),(0:Int),x0,x1,x2] 144);rw[setCell_size] at hnew;refine⟨⟨aE (aG h.blk),⟨_,_,rfl,Qk _,fun _=>⟨w4,0,rfl,om,by rw[Qa,setCell_size];omega,fun j hj=>?_,fun j hj=>?_⟩⟩,fun e=>?_⟩,((hb.mono hNw).setCell (p:=⟨b,1,none⟩) hN _).alloc (by rw[setCell_size];omega) _⟩
 · rw[Xb,aC hnew];simp[opc]
 · rw[Xb];exact aH hnew j
 · have:w4.heap.size=b:=Xi e
   omega
theorem aPo (m:List UInt8) (a:Option Addr) (c:Nat) (l:List Op3) (b N:Nat) (w:World) (hT:TabsA w) (hW:WrAt w b N m (.slice a l.length c) l) (hN:N≤b) (hNw:N≤w) (S1 S2:Bool) (hm:decide (m∈([[83,85,66],[65,78,68],[88,79,82],[79,82],[67,80]]:List (List UInt8)))=S1) (hm2:decide (m∈([[65,68,68],[65,68,67],[83,66,67]]:List (List UInt8)))=S2) (hc:(S1=false∧S2=false)∨(S1=false∧S2=true∧((l.length:Int) == 1)=false)∨(S1=true∧S2=false∧((l.length:Int) == 2)=false)) :
 Calls prog 162 #[.pointer b] w fun e w'=>(∃ u,e=.returned u)∧(∃ v',WrAt w' b N m v' l)∧Below N w w':=by
 rcases hc with⟨rfl,rfl⟩|⟨rfl,rfl,hlen⟩|⟨rfl,rfl,hlen⟩;all_goals
  have hsub:=fun W (hb:Below w w W)=>iW m W (hT.below hb);rw[hm] at hsub;have HSUB:=Hh hsub;clear hsub hm;have hadd:=fun W (hb:Below w w W)=>kN m W (hT.below hb);rw[hm2] at hadd;have HADD:=Hh hadd;clear hadd hm2;have HW:=Hh hW;have HNN:=Hh hN;have HNW:=Hh hNw;obtain⟨t0,t1,s0,s1⟩:=aL hW.blk;have hbl:=aA hW.blk;clear hW hT hN hNw;go_enter func162,ntmps162
  go_wp2_with fail
  refine bO kr kr ?_;repeat (go_big_quiet_step (first|exact eG (HSUB.out _ (bl))))
  refine wpQuiet_nil ?_;rintro W3 ⟨p3,hW3⟩;have hb3:Below w w W3:=by rw[hW3];exact bl
  have hbox:W3.heap[w.heap.size]? = some (.cells #[(1:Int),(7:Int),(0:Int)] 144 (0,0)):=by
   rw[hW3];exact aB (aF w _) (cF _ p3) (by rw[Qa];omega)
  clear hW3 p3;have HW3:=Hh (HW.out.below hb3);have HB3:=Hh hb3;have HBOX:=Hh hbox;clear hb3 hbox;obtain⟨t0',t1',s0',s1'⟩:=aL HW3.out.blk;have hbl3:=aA HW3.out.blk;go_wp2_with fail
  refine (HADD.out _ HB3.out).mono ?_;rintro e w4 ⟨rfl,hb4⟩;have HW4:=Hh (HW3.out.below hb4);have HBOX4:=Hh (aB HBOX.out hb4 (aA HBOX.out));have HB4:=Hh (HB3.out.trans (hb4.mono HB3.out.size));clear hb4 t0' t1' s0' s1' hbl3;obtain⟨t0,t1,s0,s1⟩:=aL HW4.out.blk;have hbl4:=aA HW4.out.blk;go_wp2_with fail
  go_end0
  exact⟨⟨_,rfl⟩,⟨_,HW4.out⟩,HB4.out.mono HNW.out⟩
theorem aPq (m:List UInt8) (g o c:Nat) (x:Op3) (b N:Nat) (w:World) (hT:TabsA w) (hW:WrAt w b N m (.slice (some ⟨g,o,none⟩) 1 c) [x]) (hN:N≤b) (hNw:N≤w) (hm:decide (m∈([[83,85,66],[65,78,68],[88,79,82],[79,82],[67,80]]:List (List UInt8)))=false) (hm2:decide (m∈([[65,68,68],[65,68,67],[83,66,67]]:List (List UInt8)))=true) :
 Calls prog 162 #[.pointer b] w fun e w'=>(∃ u,e=.returned u)∧(∃ v',WrAt w' b N m v' [(1,7,0),x])∧Below N w w':=by
 have hsub:=fun W (hb:Below w w W)=>iW m W (hT.below hb);rw[hm] at hsub;have HSUB:=Hh hsub;clear hsub hm;have hadd:=fun W (hb:Below w w W)=>kN m W (hT.below hb);rw[hm2] at hadd;have HADD:=Hh hadd;clear hadd hm2;have HW:=Hh hW;have HNN:=Hh hN;have HNW:=Hh hNw;obtain⟨t0,t1,s0,s1⟩:=aL hW.blk;have hbl:=aA hW.blk;obtain⟨_,_,hv,hcc,hh⟩:=WRow.op hW.row;cases hv
 obtain⟨_,_,he,hg0,hg1,hh⟩:=hh sm;cases he
 obtain⟨k0,k1,k2,f0,f1,f2⟩:=hh 0 x rfl;simp only[Yr,Xu] at k0 k1 k2 f0 f1 f2;clear hh;clear hW hT hN hNw;go_enter func162,ntmps162
 go_wp2_with fail
 refine bO kr kr ?_;repeat (go_big_quiet_step (first|exact eG (HSUB.out _ (bl))))
 refine wpQuiet_nil ?_;rintro W3 ⟨p3,hW3⟩;have hb3:Below w w W3:=by rw[hW3];exact bl
 have hbox:W3.heap[w.heap.size]? = some (.cells #[(1:Int),(7:Int),(0:Int)] 144 (0,0)):=by
  rw[hW3];exact aB (aF w _) (cF _ p3) (by rw[Qa];omega)
 clear hW3 p3;have HW3:=Hh (HW.out.below hb3);have HB3:=Hh hb3;have HBOX:=Hh hbox;clear hb3 hbox;obtain⟨t0',t1',s0',s1'⟩:=aL HW3.out.blk;have hbl3:=aA HW3.out.blk;go_wp2_with fail
 refine (HADD.out _ HB3.out).mono ?_;rintro e w4 ⟨rfl,hb4⟩;have HW4:=Hh (HW3.out.below hb4);have HBOX4:=Hh (aB HBOX.out hb4 (aA HBOX.out));have HB4:=Hh (HB3.out.trans (hb4.mono HB3.out.size));clear hb4 t0' t1' s0' s1' hbl3;obtain⟨t0,t1,s0,s1⟩:=aL HW4.out.blk;have hbl4:=aA HW4.out.blk;obtain⟨_,_,hv,_,hh⟩:=WRow.op HW4.out.row;cases hv
 obtain⟨_,_,he,hg2,hg3,hh⟩:=hh sm;cases he
 obtain⟨q0,q1,q2,_,_,_⟩:=hh 0 x rfl;simp only[Yr,Xu] at q0 q1 q2;obtain⟨z0,z1,z2,_,_,_⟩:=bE HBOX4.out;have hlx:w.heap.size<w4.heap.size:=aA HBOX4.out;clear hh;obtain⟨B,hB⟩:∃ B,w.heap.size=B:=⟨_,rfl⟩;obtain⟨x0,x1,x2⟩:=x;dsimp only at q0 q1 q2;rw[hB] at z0 z1 z2 hlx ⊢;go_wp2_with fail
 go_region
 all_goals
  obtain⟨hwr,hbe⟩:=Ur HW4.out HB4.out HNN.out HNW.out x0 x1 x2 _ rfl;have HWR:=Hh hwr;have HBE:=Hh hbe;clear hwr hbe;go_wp2_with fail
  go_end0
  exact⟨⟨_,rfl⟩,⟨_,HWR.out.below ⟨rfl,rfl,rfl,Qk _,fun _ _=>rfl⟩⟩,HBE.out.trans ⟨rfl,rfl,rfl,Qk _,fun _ _=>rfl⟩⟩
theorem aPp (m:List UInt8) (a:Option Addr) (c:Nat) (x0 x1 x2:Int) (y:Op3) (b N:Nat) (w:World) (hT:TabsA w) (hW:WrAt w b N m (.slice a 2 c) [(x0,x1,x2),y]) (hN:N≤b) (hNw:N≤w) (hm:decide (m∈([[83,85,66],[65,78,68],[88,79,82],[79,82],[67,80]]:List (List UInt8)))=true) (hm2:decide (m∈([[65,68,68],[65,68,67],[83,66,67]]:List (List UInt8)))=false) (hx:¬ x0=1∨(x0=1∧¬ x1=7)∨(x0=1∧x1=7∧¬ x2=0)) :
 Calls prog 162 #[.pointer b] w fun e w'=>(∃ u,e=.returned u)∧(∃ v',WrAt w' b N m v' [(x0,x1,x2),y])∧Below N w w':=by
 have hsub:=fun W (hb:Below w w W)=>iW m W (hT.below hb);rw[hm] at hsub;have HSUB:=Hh hsub;clear hsub hm;have hadd:=fun W (hb:Below w w W)=>kN m W (hT.below hb);rw[hm2] at hadd;have HADD:=Hh hadd;clear hadd hm2;have HW:=Hh hW;have HNN:=Hh hN;have HNW:=Hh hNw;obtain⟨t0,t1,s0,s1⟩:=aL hW.blk;have hbl:=aA hW.blk;obtain⟨_,_,hv,hcc,hh⟩:=WRow.op hW.row;cases hv
 obtain⟨g,o,rfl,hg0,hg1,hh⟩:=hh sm;obtain⟨k0,k1,k2,f0,f1,f2⟩:=hh 0 (x0,x1,x2) rfl;simp only[Yr,Xu] at k0 k1 k2 f0 f1 f2;clear hh;rcases hx with hx|⟨rfl,hx⟩|⟨rfl,rfl,hx⟩;all_goals
  clear hW hT hN hNw;go_enter func162,ntmps162
  go_wp2_with fail
  refine bO kr kr ?_;repeat (go_big_quiet_step (first|exact eG (HSUB.out _ (bl))))
  refine wpQuiet_nil ?_;rintro W3 ⟨p3,hW3⟩;have hb3:Below w w W3:=by rw[hW3];exact bl
  have hbox:W3.heap[w.heap.size]? = some (.cells #[(1:Int),(7:Int),(0:Int)] 144 (0,0)):=by
   rw[hW3];exact aB (aF w _) (cF _ p3) (by rw[Qa];omega)
  clear hW3 p3;have HW3:=Hh (HW.out.below hb3);have HB3:=Hh hb3;have HBOX:=Hh hbox;clear hb3 hbox;obtain⟨t0',t1',s0',s1'⟩:=aL HW3.out.blk;have hbl3:=aA HW3.out.blk;go_wp2_with fail
  refine (HADD.out _ HB3.out).mono ?_;rintro e w4 ⟨rfl,hb4⟩;have HW4:=Hh (HW3.out.below hb4);have HBOX4:=Hh (aB HBOX.out hb4 (aA HBOX.out));have HB4:=Hh (HB3.out.trans (hb4.mono HB3.out.size));clear hb4 t0' t1' s0' s1' hbl3;obtain⟨t0,t1,s0,s1⟩:=aL HW4.out.blk;have hbl4:=aA HW4.out.blk;go_wp2_with fail
  go_end0
  exact⟨⟨_,rfl⟩,⟨_,HW4.out⟩,HB4.out.mono HNW.out⟩
theorem Jk (m:List UInt8) (h:m∈([[83,85,66],[65,78,68],[88,79,82],[79,82],[67,80]]:List (List UInt8))):¬ m∈([[65,68,68],[65,68,67],[83,66,67]]:List (List UInt8)):=by
 simp only[Xg,Xp,or_false] at h ⊢;rcases h with rfl|rfl|rfl|rfl|rfl<;>decide
theorem Us (m:List UInt8) (v:Value) (l:List Op3) (b N:Nat) (w:World) (hT:TabsA w) (hW:WrAt w b N m v l) (hN:N≤b) (hNw:N≤w) :
 Calls prog 162 #[.pointer b] w fun e w'=>(∃ u,e=.returned u)∧(∃ v',WrAt w' b N m v' (fU (m,l)))∧Below N w w':=by
 have hrow:=hW.row;obtain⟨a,c,rfl,_,hh⟩:=hrow.op;by_cases h1:m∈([[83,85,66],[65,78,68],[88,79,82],[79,82],[67,80]]:List (List UInt8))
 · have h2:=Jk m h1;by_cases hl:l.length=2
   · obtain⟨⟨x0,x1,x2⟩,y,rfl⟩:∃ x y,l=[x,y]:=by
      match l,hl with
      | [x,y],_=>exact⟨x,y,rfl⟩
     have hA:∀ h:(x0,x1,x2)≠((1,7,0):Op3),fU (m,[(x0,x1,x2),y])=[(x0,x1,x2),y]:=fun h=>by
      unfold fU;dsimp only;rw[if_neg (fun q=>h (Xi q.2.2)),if_neg (fun q=>h2 q.1)]
     by_cases e0:x0=1
     · by_cases e1:x1=7
       · by_cases e2:x2=0
         · subst e0 e1 e2
           have:fU (m,[(1,7,0),y])=[y]:=by unfold fU;dsimp only;rw[if_pos ⟨h1,rfl,rfl⟩];rfl
           rw[this];obtain⟨g,o,rfl,_⟩:=hh sm;exact aPn m g o c y b N w hT hW hN hNw h1
         · rw[hA (by simp[e2])];exact aPp m a c x0 x1 x2 y b N w hT hW hN hNw (Qh h1) (Qg h2) (.inr (.inr ⟨e0,e1,e2⟩))
       · rw[hA (by simp[e1])];exact aPp m a c x0 x1 x2 y b N w hT hW hN hNw (Qh h1) (Qg h2) (.inr (.inl ⟨e0,e1⟩))
     · rw[hA (by simp[e0])];exact aPp m a c x0 x1 x2 y b N w hT hW hN hNw (Qh h1) (Qg h2) (.inl e0)
   · have:fU (m,l)=l:=by
      unfold fU;dsimp only;rw[if_neg (fun q=>hl q.2.1),if_neg (fun q=>h2 q.1)]
     rw[this];exact aPo m a c l b N w hT hW hN hNw _ _ (Qh h1) (Qg h2) (.inr (.inr ⟨rfl,rfl,by rw[Xd];omega⟩))
 · by_cases h2:m∈([[65,68,68],[65,68,67],[83,66,67]]:List (List UInt8))
   · by_cases hl:l.length=1
     · obtain⟨x,rfl⟩:∃ x,l=[x]:=List.length_eq_one_iff.1 hl
       have:fU (m,[x])=[(1,7,0),x]:=by unfold fU;dsimp only;rw[if_neg (fun q=>h1 q.1),if_pos ⟨h2,rfl⟩]
       rw[this];obtain⟨g,o,rfl,_⟩:=hh sm;exact aPq m g o c x b N w hT hW hN hNw (Qg h1) (Qh h2)
     · have:fU (m,l)=l:=by
        unfold fU;dsimp only;rw[if_neg (fun q=>h1 q.1),if_neg (fun q=>hl q.2)]
       rw[this];exact aPo m a c l b N w hT hW hN hNw _ _ (Qg h1) (Qh h2) (.inr (.inl ⟨rfl,rfl,by rw[Xd];omega⟩))
   · have:fU (m,l)=l:=by
      unfold fU;dsimp only;rw[if_neg (fun q=>h1 q.1),if_neg (fun q=>h2 q.1)]
     rw[this];exact aPo m a c l b N w hT hW hN hNw _ _ (Qg h1) (Qg h2) (.inl ⟨rfl,rfl⟩)
def aAQ:List UInt8:=[66,73,84,32,82,69,83,32,83,69,84,32,73,77,32,82,83,84,32,79,85,84]
def jpT:List UInt8:=[74,80,32,67,65,76,76]
theorem qN:Lib.fields aAQ=[[66,73,84],[82,69,83],[83,69,84],[73,77],[82,83,84],[79,85,84]]:=by decide +kernel
theorem sP:Lib.fields jpT=[[74,80],[67,65,76,76]]:=by decide +kernel
theorem aPg (m:List UInt8) (w:World) (hT:TabsA w):Calls prog 204 #[.string ⟨#[66,73,84,32,82,69,83,32,83,69,84,32,73,77,32,82,83,84,32,79,85,84]⟩,m] w fun e w'=>e=.returned (.bool (decide (m∈([[66,73,84],[82,69,83],[83,69,84],[73,77],[82,83,84],[79,85,84]]:List (List UInt8)))))∧Below w w w':=by
 have h:=mF aAQ m w hT dc (by decide +kernel) (by rw[qN];decide);rw[qN] at h;exact h
theorem Sy (m:List UInt8) (w:World) (hT:TabsA w):Calls prog 204 #[.string ⟨#[74,80,32,67,65,76,76]⟩,m] w fun e w'=>e=.returned (.bool (decide (m∈([[74,80],[67,65,76,76]]:List (List UInt8)))))∧Below w w w':=by
 have h:=mF jpT m w hT dc (by decide +kernel) (by rw[sP];decide);rw[sP] at h;exact h
theorem oZ (m:List UInt8) (v:Value) (l:List Op3) (w:World) (hT:TabsA w) (hr:Row w v l.length (opc l)) (hl:l.length≤1000) :
 Calls prog 207 #[eU m v] w fun e w'=>e=.returned (.int .i64 (cY (m,l)))∧Below w w w':=by
 have hbit:=fun X (hb:Below w w X)=>aPg m X (hT.below hb);have hjp:=fun X (hb:Below w w X)=>Sy m X (hT.below hb);have HR:=Hh hr;obtain⟨a,c,rfl,hc,_⟩:=hr;by_cases h1:m∈([[66,73,84],[82,69,83],[83,69,84],[73,77],[82,83,84],[79,85,84]]:List (List UInt8))
 · have hw:cY (m,l)=0:=by unfold cY;rw[if_pos h1]
   rw[hw];rw[Qh h1] at hbit;have HBIT:=Hh hbit;clear hbit hjp h1 hw;go_enter func207,ntmps207
   go_wp2_with fail
   refine (HBIT.out _ (bl)).mono ?_;rintro e w1 ⟨rfl,hb1⟩;obtain⟨p1,rfl⟩:=aO hb1;clear hb1;go_wp2_with fail
   go_ret;exact⟨rfl,bl⟩
 · rw[Qg h1] at hbit;have HBIT:=Hh hbit;clear hbit;by_cases h2:m∈([[74,80],[67,65,76,76]]:List (List UInt8))
   · have hw:cY (m,l)=2:=by unfold cY;rw[if_neg h1,if_pos (.inl h2)]
     rw[hw];rw[Qh h2] at hjp;have HJP:=Hh hjp;clear hjp h1 h2 hw;go_enter func207,ntmps207
     go_wp2_with fail
     refine (HBIT.out _ (bl)).mono ?_;rintro e w1 ⟨rfl,hb1⟩;obtain⟨p1,rfl⟩:=aO hb1;clear hb1;go_wp2_with fail
     refine (HJP.out _ (bl)).mono ?_;rintro e w2 ⟨rfl,hb2⟩;obtain⟨p2,rfl⟩:=aO hb2;clear hb2;go_wp2_with fail
     go_ret;exact⟨rfl,bl⟩
   · rw[Qg h2] at hjp;have HJP:=Hh hjp;clear hjp;have hw:cY (m,l)=if m=[76,68]∧l.head?.map (·.1)=some 3 then 2 else 1:=by
      unfold cY;rw[if_neg h1];by_cases h3:m=[76,68]∧l.head?.map (·.1)=some 3
      · rw[if_pos (.inr h3),if_pos h3]
      · rw[if_neg (fun h=>h.elim h2 h3),if_neg h3]
     rw[hw];clear h1 h2 hw;by_cases h3:m=[76,68]
     · have hm2:(m == [76,68])=true:=by rw[h3];rfl
       cases l with
       | nil =>
         rw[if_neg sm];have HM:=Hh h3;clear h3;go_enter func207,ntmps207
         go_wp2_with fail
         refine (HBIT.out _ (bl)).mono ?_;rintro e w1 ⟨rfl,hb1⟩;obtain⟨p1,rfl⟩:=aO hb1;clear hb1;go_wp2_with fail
         refine (HJP.out _ (bl)).mono ?_;rintro e w2 ⟨rfl,hb2⟩;obtain⟨p2,rfl⟩:=aO hb2;clear hb2;go_wp2_with fail
         go_ret;exact⟨rfl,bl⟩
       | cons x t =>
         obtain⟨_,_,hv,_,hh⟩:=HR.out.op;cases hv
         obtain⟨g,o,rfl,hg,hh⟩:=hh sm;obtain⟨k0,k1,k2⟩:=hh 0 x rfl;simp only[Yr,Xu] at k0;have hi1:(0:Int)<((x::t).length:Int):=by simp only[Qp];omega
         have hcc:((x::t).length:Int)≤(c:Int):=om
         have hxx:(if m=[76,68]∧(x::t).head?.map (·.1)=some 3 then (2:Nat) else 1)=if x.1=3 then 2 else 1:=by simp[h3]
         rw[hxx];obtain⟨n,hn⟩:∃ n,(x::t).length=n:=⟨_,rfl⟩;rw[hn] at hi1 hcc hc ⊢;have HM:=Hh h3;clear hh HR k1 k2 hxx h3 hn;obtain⟨x0,x1,x2⟩:=x;dsimp only at k0 ⊢;by_cases hx:x0=3
         · subst hx;rw[if_pos rfl];go_enter func207,ntmps207
           go_wp2_with fail
           refine (HBIT.out _ (bl)).mono ?_;rintro e w1 ⟨rfl,hb1⟩;have hx1:=aW hb1;have hbw1:Below w w w1:=aK hb1;obtain⟨z0,z1,_,_⟩:=aL hx1;clear hb1;go_wp2_with fail
           refine (HJP.out _ hbw1).mono ?_;rintro e w2 ⟨rfl,hb2⟩;obtain⟨z0',z1',_,_⟩:=aL (aB hx1 hb2 (aA hx1));have HB2:=Hh (hbw1.trans (hb2.mono hbw1.size));have kz:w2.cell? ⟨g,o,none⟩=some (.int .i64 _):=(HB2.out.cell (p:=⟨g,o,none⟩) hg).trans k0;clear hb2 z0 z1 hx1 hbw1 k0;go_wp2_with fail
           go_ret;exact⟨rfl,HB2.out⟩
         · rw[if_neg hx];have hx3:(x0 == 3)=false:=by simpa using hx
           go_enter func207,ntmps207
           go_wp2_with fail
           refine (HBIT.out _ (bl)).mono ?_;rintro e w1 ⟨rfl,hb1⟩;have hx1:=aW hb1;have hbw1:Below w w w1:=aK hb1;obtain⟨z0,z1,_,_⟩:=aL hx1;clear hb1;go_wp2_with fail
           refine (HJP.out _ hbw1).mono ?_;rintro e w2 ⟨rfl,hb2⟩;obtain⟨z0',z1',_,_⟩:=aL (aB hx1 hb2 (aA hx1));have HB2:=Hh (hbw1.trans (hb2.mono hbw1.size));have kz:w2.cell? ⟨g,o,none⟩=some (.int .i64 _):=(HB2.out.cell (p:=⟨g,o,none⟩) hg).trans k0;clear hb2 z0 z1 hx1 hbw1 k0;go_wp2_with fail
           go_ret;exact⟨rfl,HB2.out⟩
     · rw[if_neg (fun h=>h3 h.1)];have hm2:(m == [76,68])=false:=by simpa using h3
       have HM:=Hh h3;clear h3;go_enter func207,ntmps207
       go_wp2_with fail
       refine (HBIT.out _ (bl)).mono ?_;rintro e w1 ⟨rfl,hb1⟩;obtain⟨p1,rfl⟩:=aO hb1;clear hb1;go_wp2_with fail
       refine (HJP.out _ (bl)).mono ?_;rintro e w2 ⟨rfl,hb2⟩;obtain⟨p2,rfl⟩:=aO hb2;clear hb2;go_wp2_with fail
       go_ret;exact⟨rfl,bl⟩
theorem xK (i:aY):cY i=0∨cY i=1∨cY i=2:=by
 unfold cY;split
 · exact .inl rfl
 · split
   · exact .inr (.inr rfl)
   · exact .inr (.inl rfl)
def dB (s h:Int) (o:Op3):Op3:=if o.1=6∧o.2.2<0∧h≤o.2.2 then (o.1,o.2.1,o.2.2+s) else o
theorem aPE:sC 0=dB 1 0:=by
 funext o
 unfold sC dB;rw[if_neg (by rintro⟨_,_,h|h⟩<;>exact absurd h.1 dc),if_neg (by rintro⟨_,h1,h2⟩;omega)]
theorem aPD:sC 1=dB 256 (-128):=by
 funext o
 unfold sC dB;by_cases h:o.1=6∧o.2.2<0∧-128≤o.2.2
 · rw[if_pos ⟨h.1,h.2.1,.inl ⟨rfl,h.2.2⟩⟩,if_pos h];rfl
 · rw[if_neg (by rintro⟨h1,h2,h3|h3⟩;exact h ⟨h1,h2,h3.2⟩;exact absurd h3.1 dc),if_neg h]
theorem aPC:sC 2=dB 65536 (-32768):=by
 funext o
 unfold sC dB;by_cases h:o.1=6∧o.2.2<0∧-32768≤o.2.2
 · rw[if_pos ⟨h.1,h.2.1,.inr ⟨rfl,h.2.2⟩⟩,if_pos h];rfl
 · rw[if_neg (by rintro⟨h1,h2,h3|h3⟩;exact absurd h3.1 dc;exact h ⟨h1,h2,h3.2⟩),if_neg h]
theorem WrAt.rowKb {w w':World} {b N:Nat} {m:List UInt8} {v:Value} {l l':List Op3} (h:WrAt w b N m v l) (hb:w'.heap[b]? = w.heap[b]?) (hr:WRow w' N v l'.length (opc l')):WrAt w' b N m v l':=⟨hb.trans h.blk,hr,h.ne⟩
theorem aOZ (m:List UInt8) (v:Value) (l:List Op3) (b N:Nat) (w:World) (hT:TabsA w) (hW:WrAt w b N m v l) (hN:N≤b) (hNw:N≤w) (hl:l.length≤1000) (k:Nat) (s h:Int) (hk:cY (m,l)=k) (hc:(k=0∧s=1∧h=0)∨(k=1∧s=256∧h=-128)∨(k=2∧s=65536∧h=-32768)) :
 Calls prog 164 #[.pointer b] w fun e w'=>(∃ u,e=.returned u)∧WrAt w' b N m v (l.map (dB s h))∧Below N w w':=by
 rcases hc with⟨rfl,hs,hh0⟩|⟨rfl,hs,hh0⟩|⟨rfl,hs,hh0⟩;all_goals
  have HS:=Hh hs;have HH:=Hh hh0;clear hs hh0;have hwd:=fun W (hb:Below w w W)=>oZ m v l W (hT.below hb) (hW.row.row.below hb) hl;rw[hk] at hwd;have HWD:=Hh hwd;clear hwd hk;have HW:=Hh hW;have HNN:=Hh hN;have HNW:=Hh hNw;obtain⟨t0,t1,s0,s1⟩:=aL hW.blk;have hbl:=aA hW.blk;obtain⟨a,c,rfl,hcc,_⟩:=WRow.op hW.row;clear hW hT hN hNw;go_enter func164,ntmps164
  go_wp2_with fail
  refine (HWD.out _ br).mono ?_;rintro e w1 ⟨rfl,hb1⟩;have HW1:=Hh (HW.out.below hb1);have HB1:=Hh (hb1.mono HNW.out);clear t0 t1 s0 s1 hb1;obtain⟨t0,t1,s0,s1⟩:=aL HW1.out.blk;have hbl1:=aA HW1.out.blk;go_wp2_with fail
  go_loopw [18] (fun i wr=>∃ j:Nat,j≤l.length∧i=.int .i64 j∧Hid (WrAt wr b N m (.slice a l.length c) (lkL (dB s h) l j))∧Hid (Below N w wr)) (fun i _=>l.length - (intOf i).toNat)
  case atStart=>exact⟨0,Qi _,rfl,Hh (by unfold lkL;simpa using HW1.out),HB1⟩
  case round =>
   obtain⟨j,hj,rfl,HW2,HB2⟩:=hrel;by_cases hlt:j<l.length
   · obtain⟨x,hx⟩:∃ x,l[j]? = some x:=⟨_,Qb hlt⟩;have hrow:=HW2.out.row;obtain⟨_,_,hv,_,hh⟩:=WRow.op hrow;have hlen:=bY (dB s h) l j;rw[hlen] at hv;cases hv
     obtain⟨g,o,rfl,hg0,hg1,hh⟩:=hh (by intro e;rw[e] at hlen;simp at hlen;omega);obtain⟨k0,k1,k2,f0,f1,f2⟩:=hh j x (nF hx);obtain⟨t0,t1,s0,s1⟩:=aL HW2.out.blk;have hbl2:=aA HW2.out.blk;have HX:=Hh hx;have hi0:(0:Int)≤(j:Int):=om
     have hi1:(j:Int)<(l.length:Int):=om
     clear hh hrow hlen hx;obtain⟨x0,x1,x2⟩:=x;dsimp only at k0 k1 k2;by_cases h6:x0=6
     · by_cases hn:x2<0
       · by_cases hm:h≤x2
         · by_cases h0:h=0
           · exact absurd hn om
           · first
             | exact absurd HH.out h0
             | (subst h6
                have hfx:(dB s h) (6,x1,x2)=(6,x1,x2+s):=if_pos ⟨rfl,hn,hm⟩;have hset:=kG HX.out hfx;have hwr:∀ X:World,Below wr wr X→WrAt (X.setCell ⟨g,o+j*3+2,none⟩ (.int .i64 (x2+s))) b N m (.slice (some ⟨g,o,none⟩) l.length c) (lkL (dB s h) l (j+1)):=fun X hb=>by
                 have h1:=HW2.out.below hb;have hr:=h1.row;have hlen:=bY (dB s h) l j;rw[hlen] at hr;have hr2:WRow X N (.slice (some ⟨g,o,none⟩) (lkL (dB s h) l j).length c) (lkL (dB s h) l j).length (opc (lkL (dB s h) l j)):=by rw[hlen];exact hr
                 have hs:=WRow.setN (m:=x2+s) hr2 (nF HX.out);rw[hset,hlen] at hs;exact h1.rowKb (aD h1.blk (fun e=>h1.ne (by rw[e];rfl)) |>.trans h1.blk.symm) (by rw[bY];exact hs)
                have HWR:=Hh hwr;clear hwr hset hfx;obtain rfl:=HS.out;obtain rfl:=HH.out;go_wp2_with fail
                go_roundw
                case rel=>exact⟨j+1,om,by go_num,Hh (by first|exact HWR.out _ (bl)|exact (HWR.out wr br).below (br.alloc lr _)),Hh ((HB2.out.setCell (p:=⟨g,o+j*3+2,none⟩) hg0 _).alloc (by rw[setCell_size];have:=HB2.out.size;have:=HNW.out;omega) _)⟩
                case measure=>simp[intOf];omega)
         · have HFX:(dB s h) (x0,x1,x2)=(x0,x1,x2):=if_neg (fun q=>hm q.2.2);subst h6;obtain rfl:=HS.out;obtain rfl:=HH.out;go_wp2_with fail
           go_roundw
           case rel=>exact⟨j+1,om,by go_num,Hh (by rw[←cJ HX.out HFX];exact HW2.out.below (bl)),Hh (HB2.out.alloc (by have:=HB2.out.size;have:=HNW.out;omega) _)⟩
           case measure=>simp[intOf];omega
       · have HFX:(dB s h) (x0,x1,x2)=(x0,x1,x2):=if_neg (fun q=>hn q.2.1);subst h6;obtain rfl:=HS.out;obtain rfl:=HH.out;go_wp2_with fail
         go_roundw
         case rel=>exact⟨j+1,om,by go_num,Hh (by rw[←cJ HX.out HFX];exact HW2.out.below (bl)),Hh (HB2.out.alloc (by have:=HB2.out.size;have:=HNW.out;omega) _)⟩
         case measure=>simp[intOf];omega
     · have HFX:(dB s h) (x0,x1,x2)=(x0,x1,x2):=if_neg (fun q=>h6 q.1);have h6b:(x0 == 6)=false:=by simpa using h6
       go_wp2_with fail
       go_roundw
       case rel=>exact⟨j+1,om,by go_num,Hh (by rw[←cJ HX.out HFX];exact HW2.out.below (bl)),Hh (HB2.out.alloc (by have:=HB2.out.size;have:=HNW.out;omega) _)⟩
       case measure=>simp[intOf];omega
   · obtain rfl:j=l.length:=om
     have hw3:=HW2.out;rw[show lkL (dB s h) l l.length=l.map (dB s h) by unfold lkL;simp] at hw3
     have HW3:=Hh hw3;clear hw3;obtain⟨t0,t1,s0,s1⟩:=aL HW3.out.blk;go_wp2_with fail
     go_end0
     exact⟨⟨_,rfl⟩,HW3.out,HB2.out⟩
theorem Nc (m:List UInt8) (v:Value) (l:List Op3) (b N:Nat) (w:World) (hT:TabsA w) (hW:WrAt w b N m v l) (hN:N≤b) (hNw:N≤w) (hl:l.length≤1000) :
 Calls prog 164 #[.pointer b] w fun e w'=>(∃ u,e=.returned u)∧WrAt w' b N m v (l.map (sC (cY (m,l))))∧Below N w w':=by
 rcases xK (m,l) with h|h|h
 · rw[h,aPE];exact aOZ m v l b N w hT hW hN hNw hl _ _ _ h (.inl ⟨rfl,rfl,rfl⟩)
 · rw[h,aPD];exact aOZ m v l b N w hT hW hN hNw hl _ _ _ h (.inr (.inl ⟨rfl,rfl,rfl⟩))
 · rw[h,aPC];exact aOZ m v l b N w hT hW hN hNw hl _ _ _ h (.inr (.inr ⟨rfl,rfl,rfl⟩))
theorem Kb.drewK {b:Nat} {u w:World} (h:Kb b u w):Kb b u w.drew:=⟨h.os,h.tape,h.output,h.size,h.block⟩
theorem Rr {w:World} {g o c N:Nat} {x0 x1 x2 y0 y1 y2:Int} (hr:WRow w N (.slice (some ⟨g,o,none⟩) 2 c) 2 (opc [(x0,x1,x2),(y0,y1,y2)])) (X:World)
 (hX:X=(((((w.setCell ⟨g,o,none⟩ y0).setCell ⟨g,o+1,none⟩ y1).setCell ⟨g,o+2,none⟩ y2).setCell ⟨g,o+3,none⟩ x0).setCell ⟨g,o+3+1,none⟩ x1).setCell ⟨g,o+3+2,none⟩ x2) :
 WRow X N (.slice (some ⟨g,o,none⟩) 2 c) 2 (opc [(y0,y1,y2),(x0,x1,x2)])∧Kb g w X:=by
 subst hX;refine⟨?_,((((((Kb.refl g w).setCell o _).setCell (o+1) _).setCell (o+2) _).setCell (o+3) _).setCell (o+3+1) _).setCell (o+3+2) _⟩;have h0:=hr.set (i:=0) (u:=.int .i64 y0) (by simp[opc]);have h1:=h0.set (i:=1) (u:=.int .i64 y1) (by simp[opc]);have h2:=h1.set (i:=2) (u:=.int .i64 y2) (by simp[opc]);have h3:=h2.set (i:=3) (u:=.int .i64 x0) (by simp[opc]);have h4:=h3.set (i:=4) (u:=.int .i64 x1) (by simp[opc]);have h5:=h4.set (i:=5) (u:=.int .i64 x2) (by simp[opc]);simp only[opc,Xz,List.flatMap_nil,Xy,Ye,Zd,List.set_cons_zero,List.set_cons_succ,Xu] at h5 ⊢;exact h5
theorem Rq (g o c:Nat) (x0 x1 x2 y0 y1 y2:Int) (N:Nat) (w:World) (hr:WRow w N (.slice (some ⟨g,o,none⟩) 2 c) 2 (opc [(x0,x1,x2),(y0,y1,y2)])) :
 Calls prog 206 #[.slice (some ⟨g,o,none⟩) 2 c] w fun e w'=>(∃ u,e=.returned u)∧WRow w' N (.slice (some ⟨g,o,none⟩) 2 c) 2 (opc [(y0,y1,y2),(x0,x1,x2)])∧Kb g w w':=by
 have HR:=Hh hr;obtain⟨_,_,hv,hcc,hh⟩:=WRow.op (l:=[(x0,x1,x2),(y0,y1,y2)]) hr;cases hv
 obtain⟨_,_,he,hg0,hg1,hh⟩:=hh sm;cases he
 obtain⟨k0,k1,k2,f0,f1,f2⟩:=hh 0 _ rfl;obtain⟨l0,l1,l2,e0,e1,e2⟩:=hh 1 _ rfl;simp only[Yr,Xu,Nat.one_mul] at k0 k1 k2 f0 f1 f2 l0 l1 l2 e0 e1 e2;dsimp only[List.length_cons,List.length_nil] at hcc;have hcc2:(2:Int)≤(c:Int):=om
 clear hh hr;go_enter func206,ntmps206
 go_wp2_with fail
 go_loopw [2,3] (fun i j wr=>(i=.int .i64 0∧j=.int .i64 1∧Hid (wr=w))∨(i=.int .i64 1∧j=.int .i64 0∧Hid (WRow wr N (.slice (some ⟨g,o,none⟩) 2 c) 2 (opc [(y0,y1,y2),(x0,x1,x2)]))∧Hid (Kb g w wr))) (fun i _ _=>1 - (intOf i).toNat)
 case atStart=>exact .inl ⟨rfl,rfl,Hh rfl⟩
 case round =>
  rcases hrel with⟨rfl,rfl,HWE⟩|⟨rfl,rfl,HR2,HK2⟩
  · obtain rfl:=HWE.out;go_wp2_with fail
    go_region
    all_goals
     obtain⟨hwr,hkb⟩:=Rr HR.out _ rfl;have HWR:=Hh hwr;have HKB:=Hh hkb;clear hwr hkb;go_wp2_with fail
     go_roundw
     case rel=>exact .inr ⟨by go_num,by go_num,Hh (WRow.below HWR.out br.drew),Hh (Kb.drewK HKB.out)⟩
     case measure=>simp[intOf]
  · go_wp2_with fail
    go_end0
    exact⟨⟨_,rfl⟩,HR2.out,HK2.out⟩
theorem Tm (m:List UInt8) (v:Value) (l:List Op3) (b N:Nat) (w:World) (hW:WrAt w b N m v l) (hNw:N≤w) (hm:m≠[69,88]) :
 Calls prog 163 #[.pointer b] w fun e w'=>(∃ u,e=.returned u)∧(∃ v',WrAt w' b N m v' l)∧Below N w w':=by
 have HW:=Hh hW;have HNW:=Hh hNw;have hm2:(m == [69,88])=false:=by simpa using hm
 have HM:=Hh hm;clear hm;obtain⟨t0,t1,s0,s1⟩:=aL hW.blk;have hbl:=aA hW.blk;obtain⟨a,c,rfl,hcc,_⟩:=WRow.op hW.row;clear hW hNw;go_enter func163,ntmps163
 go_wp2_with fail
 obtain⟨W,hW0⟩:∃ W,((w.alloc (.cells #[(3:Int),(2:Int),(0:Int)] 144)).alloc (.cells #[(3:Int),(1:Int),(0:Int)] 144))=W:=⟨_,rfl⟩;have hbW:Below w w W:=by rw[←hW0];exact (br.alloc lr _).alloc sm _
 have hb0:W.heap[w.heap.size]? = some (.cells #[(3:Int),(2:Int),(0:Int)] 144 (0,0)):=by rw[←hW0];exact aE (aF _ _)
 have hb1:W.heap[w.heap.size+1]? = some (.cells #[(3:Int),(1:Int),(0:Int)] 144 (0,0)):=by rw[←hW0];have:=aF (w.alloc (.cells #[(3:Int),(2:Int),(0:Int)] 144)) (.cells #[(3:Int),(1:Int),(0:Int)] 144);rwa [Qa] at this
 rw[hW0];clear hW0;have HWW:=Hh (HW.out.below hbW);clear t0 t1 s0 s1 hbl;obtain⟨t0,t1,s0,s1⟩:=aL HWW.out.blk;have hbl:=aA HWW.out.blk;have HBW:=Hh hbW;have HB0:=Hh hb0;have HB1:=Hh hb1;clear hbW hb0 hb1;refine bO kr kr ?_;repeat (go_big_quiet_step (fail))
 refine wpQuiet_nil ?_;rintro W3 ⟨p3,hW3⟩;have hb3:Below W W W3:=by rw[hW3];exact bl
 clear hW3 p3;have HW3:=Hh (HWW.out.below hb3);have HB3:=Hh (HBW.out.trans (hb3.mono HBW.out.size));clear hb3;go_wp2_with fail
 go_end0
 exact⟨⟨_,rfl⟩,⟨_,HW3.out⟩,HB3.out.mono HNW.out⟩
theorem rZ (w:World) (xs:List Value) (n:Nat) (T:TypeId):Row (w.alloc (.cells xs.toArray T)) (.slice w n n) n xs:=by
 refine⟨_,_,rfl,Qk _,fun _=>⟨w,0,rfl,by rw[Qa];omega,fun j hj=>?_⟩⟩
 rw[Xb,aC (aF w _)];simp
theorem Tn (v:Value) (l:List Op3) (b N:Nat) (w:World) (hW:WrAt w b N [69,88] v l) (hN:N≤b) (hNw:N≤w) (hl:l.length≤1000) (D:Bool) (hD:decide (l=[(3,2,0),(3,1,0)])=D) :
 Calls prog 163 #[.pointer b] w fun e w'=>(∃ u,e=.returned u)∧(∃ v',WrAt w' b N [69,88] v' (if D=true then [(3,1,0),(3,2,0)] else l))∧Below N w w':=by
 have heq:=fun v2 X (hb:Below w w X) h2=>qG v v2 l [(3,2,0),(3,1,0)] X (hW.row.row.below hb) h2 om dc;rw[hD] at heq;have HEQ:=Hh heq;clear heq;have HDD:=Hh hD;clear hD;have HW:=Hh hW;have HN:=Hh hN;have HNW:=Hh hNw;obtain⟨t0,t1,s0,s1⟩:=aL hW.blk;have hbl:=aA hW.blk;obtain⟨a,c,rfl,hcc,_⟩:=WRow.op hW.row;clear hW hNw hN;go_enter func163,ntmps163
 go_wp2_with fail
 obtain⟨W,hW0⟩:∃ W,((w.alloc (.cells #[(3:Int),(2:Int),(0:Int)] 144)).alloc (.cells #[(3:Int),(1:Int),(0:Int)] 144))=W:=⟨_,rfl⟩;have hbW:Below w w W:=by rw[←hW0];exact (br.alloc lr _).alloc sm _
 have hb0:W.heap[w.heap.size]? = some (.cells #[(3:Int),(2:Int),(0:Int)] 144 (0,0)):=by rw[←hW0];exact aE (aF _ _)
 have hb1:W.heap[w.heap.size+1]? = some (.cells #[(3:Int),(1:Int),(0:Int)] 144 (0,0)):=by rw[←hW0];have:=aF (w.alloc (.cells #[(3:Int),(2:Int),(0:Int)] 144)) (.cells #[(3:Int),(1:Int),(0:Int)] 144);rwa [Qa] at this
 rw[hW0];clear hW0;have HWW:=Hh (HW.out.below hbW);clear t0 t1 s0 s1 hbl;obtain⟨t0,t1,s0,s1⟩:=aL HWW.out.blk;have hbl:=aA HWW.out.blk;have HBW:=Hh hbW;have HB0:=Hh hb0;have HB1:=Hh hb1;clear hbW hb0 hb1;obtain⟨z0,z1,z2,_,_,_⟩:=bE HB0.out;obtain⟨y0,y1,y2,_,_,_⟩:=bE HB1.out;have hlz:=aA HB0.out;have hly:=aA HB1.out;have hK:∀ X,Below W W X→X.cell? b=some (.string ⟨#[69,88]⟩)∧X.cell? ⟨b,1,none⟩=some (.slice a l.length c)∧X.cell? w=some (.int .i64 3)∧X.cell? ⟨w,1,none⟩=some (.int .i64 2)∧X.cell? ⟨w,2,none⟩=some (.int .i64 0)∧X.cell? ⟨w+1,0,none⟩=some (.int .i64 3)∧X.cell? ⟨w+1,1,none⟩=some (.int .i64 1)∧X.cell? ⟨w+1,2,none⟩=some (.int .i64 0):=fun X hb=>⟨(hb.cell (p:=b) hbl).trans t0,(hb.cell (p:=⟨b,1,none⟩) hbl).trans t1,(hb.cell (p:=w) hlz).trans z0,(hb.cell (p:=⟨w,1,none⟩) hlz).trans z1,(hb.cell (p:=⟨w,2,none⟩) hlz).trans z2,(hb.cell (p:=⟨w+1,0,none⟩) hly).trans y0,(hb.cell (p:=⟨w+1,1,none⟩) hly).trans y1,(hb.cell (p:=⟨w+1,2,none⟩) hly).trans y2⟩;have hd:Below W W ((W.alloc (.cells #[(3:Int),(2:Int),(0:Int),(3:Int),(1:Int),(0:Int)] 144)).drew):=bl;have hro:Row ((W.alloc (.cells #[(3:Int),(2:Int),(0:Int),(3:Int),(1:Int),(0:Int)] 144)).drew) (.slice (some ⟨W,0,none⟩) 2 2) [((3,2,0):Op3),(3,1,0)].length (opc [(3,2,0),(3,1,0)]):=(rZ W (opc [(3,2,0),(3,1,0)]) 2 _).below ⟨rfl,rfl,rfl,Qk _,fun _ _=>rfl⟩;have hcall:=HEQ.out _ _ (HBW.out.trans (hd.mono HBW.out.size)) hro;have K1:=hK W br;have K3:=hK _ hd;have HK:=Hh hK;clear hK;go_region_held3 (fun X=>X.cell? b=some (.string ⟨#[69,88]⟩)∧X.cell? ⟨b,1,none⟩=some (.slice a l.length c)∧X.cell? w=some (.int .i64 3)∧X.cell? ⟨w,1,none⟩=some (.int .i64 2)∧X.cell? ⟨w,2,none⟩=some (.int .i64 0)∧X.cell? ⟨w+1,0,none⟩=some (.int .i64 3)∧X.cell? ⟨w+1,1,none⟩=some (.int .i64 1)∧X.cell? ⟨w+1,2,none⟩=some (.int .i64 0)) (first|exact K1|exact K3|exact K4) (first|(with_reducible refine hcall.mono ?_;rintro e w4 ⟨rfl,hb4⟩;have hbw4:Below W W w4:=hd.trans (hb4.mono hd.size);have K4:=HK.out w4 hbw4))
 have HW4:=Hh (HWW.out.below hbw4);have HB4:=Hh (HBW.out.trans (hbw4.mono HBW.out.size));clear hbw4 hb4 hd hro hcall K1 K3 K4 t0 t1 s0 s1 z0 z1 z2 y0 y1 y2 hbl hlz hly;obtain⟨t0,t1,s0,s1⟩:=aL HW4.out.blk;have hbl:=aA HW4.out.blk;cases D with
 | false =>
   go_wp2_with fail
   go_end0
   exact⟨⟨_,rfl⟩,⟨_,HW4.out⟩,HB4.out.mono HNW.out⟩
 | true =>
   have hl2:l=[(3,2,0),(3,1,0)]:=of_decide_eq_true HDD.out;subst hl2;obtain⟨_,_,hv,_,hh⟩:=WRow.op HW4.out.row;cases hv
   obtain⟨g,o,rfl,hg0,hg1,_⟩:=hh sm;have hrv:=Rq g o c 3 2 0 3 1 0 N w4 HW4.out.row;have HRV:=Hh hrv;clear hrv hh;have HG:=Hh hg0;have hgb:g≠b:=fun e=>HW4.out.ne (by rw[e];rfl);have HGB:=Hh hgb;clear hgb hg0;dsimp only[List.length_cons,List.length_nil] at t1 ⊢;go_wp2_with fail
   refine HRV.out.mono ?_;rintro e w5 ⟨⟨u,rfl⟩,hr5,hk5⟩;have HR5:=Hh hr5;have HK5:=Hh hk5;clear hr5 hk5;go_wp2_with fail
   go_end0
   refine⟨⟨_,rfl⟩,⟨_,⟨(HK5.out.block b hbl (fun e=>HGB.out e.symm)).trans HW4.out.blk,HR5.out,HW4.out.ne⟩⟩,(HB4.out.mono HNW.out).trans ⟨HK5.out.os,HK5.out.tape,HK5.out.output,HK5.out.size,fun k hk=>HK5.out.block k (by have:=HB4.out.size;have:=HNW.out;omega) (by have:=HG.out;omega)⟩⟩
theorem Pg (m:List UInt8) (v:Value) (l:List Op3) (b N:Nat) (w:World) (hW:WrAt w b N m v l) (hN:N≤b) (hNw:N≤w) (hl:l.length≤1000) :
 Calls prog 163 #[.pointer b] w fun e w'=>(∃ u,e=.returned u)∧(∃ v',WrAt w' b N m v' (exP m l))∧Below N w w':=by
 by_cases hm:m=[69,88]
 · subst hm;have h:=Tn v l b N w hW hN hNw hl _ rfl;have e:exP [69,88] l=if decide (l=[(3,2,0),(3,1,0)])=true then [(3,1,0),(3,2,0)] else l:=by
    unfold exP;by_cases h:l=[(3,2,0),(3,1,0)]<;>simp[h]
   rw[e];exact h
 · have e:exP m l=l:=by unfold exP;rw[if_neg (fun h=>hm h.1)]
   rw[e];exact Tm m v l b N w hW hNw hm
theorem nA (a0 a1 a2:Value) (w:World) :
 (Instr.index 230 (.agg #[a0,a1,a2]) (.int .i64 0)).run prog w=.ok a0 w∧(Instr.index 230 (.agg #[a0,a1,a2]) (.int .i64 1)).run prog w=.ok a1 w ∧
 (Instr.index 230 (.agg #[a0,a1,a2]) (.int .i64 2)).run prog w=.ok a2 w:=by
 refine⟨?_,?_,?_⟩<;>(change _=_;kernel_rfl)
theorem Nb (m:List UInt8) (v:Value) (l:List Op3) (w:World) (hT:TabsA w) (hr:Row w v l.length (opc l)) (hl:l.length≤900) :
 Calls prog 115 #[eU m v] w fun e w'=>∃ v',e=.returned (eU m v')∧WRow w' w v' (bV (m,l)).2.length (opc (bV (m,l)).2)∧Below w w w':=by
 have hcl:=fun X (hb:Below w w X)=>vO v l X (hr.below hb) om;have hA:(fU (m,l)).length≤l.length+1:=Ak (m,l);have hE:(exP m (fU (m,l))).length=(fU (m,l)).length:=Fc m _;have hwid:=xL (m,l);have hacc:=fun X v' b (hb:Below w w X) hW=>Us m v' l b (w.heap.size+1+1) X (hT.below hb) hW;have hexc:=fun X v' b hW=>Pg m v' (fU (m,l)) b (w.heap.size+1+1) X hW;have hnum:=fun X v' b (hb:Below w w X) hW=>Nc m v' (exP m (fU (m,l))) b (w.heap.size+1+1) X (hT.below hb) hW;have hcp:(bV (m,l)).2=(exP m (fU (m,l))).map (sC (cY (m,exP m (fU (m,l))))):=by
  unfold bV;dsimp only at hwid ⊢;rw[hwid]
 rw[hcp];obtain⟨L1,h1⟩:∃ L1,fU (m,l)=L1:=⟨_,rfl⟩;rw[h1] at hA hE hacc hexc hnum ⊢;obtain⟨L2,h2⟩:∃ L2,exP m L1=L2:=⟨_,rfl⟩;rw[h2] at hE hexc hnum ⊢;obtain⟨L3,h3⟩:∃ L3,L2.map (sC (cY (m,L2)))=L3:=⟨_,rfl⟩;rw[h3] at hnum ⊢;clear h1 h2 h3 hwid hcp;have HCL:=Hh hcl;clear hcl;have HACC:=Hh hacc;clear hacc;have HEXC:=Hh hexc;clear hexc;have HNUM:=Hh hnum;clear hnum;have HL:=Hh (And.intro hA hE);clear hA hE;clear hT;obtain⟨a,c,rfl,_,_⟩:=hr;go_enter func115,ntmps115
 go_wp2_with fail
 obtain⟨W,hW⟩:∃ W,((w.alloc (.cells #[m,.slice a l.length c] 53)).alloc (.cells #[(),zz] 53))=W:=⟨_,rfl⟩;have hbW:Below w w W:=by rw[←hW];exact (br.alloc lr _).alloc sm _
 have hsz:W.heap.size=w.heap.size+1+1:=by rw[←hW];simp
 have h0:W.heap[w.heap.size]? = some (.cells #[m,.slice a l.length c] 53 (0,0)):=by rw[←hW];exact aE (aF _ _)
 have h1:W.heap[w.heap.size+1]? = some (.cells #[(),zz] 53 (0,0)):=by rw[←hW];have:=aF (w.alloc (.cells #[m,.slice a l.length c] 53)) (.cells #[(),zz] 53);rwa [Qa] at this
 rw[hW];clear hW;obtain⟨t0,t1,_,_⟩:=aL h0;have hl0:w.heap.size<W.heap.size:=om
 have HSZ:=Hh hsz;have H0:=Hh h0;have H1:=Hh h1;have HBW:=Hh hbW;have hK:∀ X,Below W W X→X.cell? w=some (.string ⟨m.toArray⟩)∧X.cell? ⟨w,1,none⟩=some (.slice a l.length c):=fun X hb=>⟨(hb.cell (p:=w) hl0).trans t0,(hb.cell (p:=⟨w,1,none⟩) hl0).trans t1⟩;have HK:=Hh hK;have K1:=hK W br;clear hsz h0 h1 hbW hK;have hd:Below W W W.drew:=bl;have hd2:Below w w W.drew:=HBW.out.trans (hd.mono HBW.out.size);go_region_held3 (fun X=>X.cell? w=some (.string ⟨m.toArray⟩)∧X.cell? ⟨w,1,none⟩=some (.slice a l.length c)) (first|exact K1|exact K4|exact K5) (first|((with_reducible refine (HCL.out _ hd2).mono ?_);rintro e w4 ⟨v4,rfl,hown4,hb4⟩;have hbw4:Below W W w4:=hd.trans hb4;have K4:=HK.out w4 hbw4;obtain⟨a4,c4,rfl⟩:=aI hown4;have K5:=HK.out (w4.alloc (.cells #[m,.slice a4 l.length c4] 228)) (hbw4.alloc hbw4.size _)))
 obtain⟨W5,hW5⟩:∃ W5,(w4.alloc (.cells #[m,.slice a4 l.length c4] 228))=W5:=⟨_,rfl⟩;have hb45:Below w4 w4 W5:=by rw[←hW5];exact br.alloc lr _
 have hblk5:W5.heap[w4.heap.size]? = some (.cells #[m,.slice a4 l.length c4] 228 (0,0)):=by rw[←hW5];exact aF _ _
 rw[hW5];clear hW5 K1 K4 K5;have hs4:w.heap.size+1+1≤w4.heap.size:=by have:=hbw4.size;rw[HSZ.out] at this;exact this
 have hbw5:Below W W W5:=hbw4.trans (hb45.mono hbw4.size);have hbw:Below w w W5:=HBW.out.trans (hbw5.mono HBW.out.size);have hwr5:WrAt W5 w4 (w.heap.size+1+1) m (.slice a4 l.length c4) l:=⟨hblk5,((WRow.of_owns hown4).mono (by show w.heap.size+1+1≤W.heap.size;rw[HSZ.out];exact Qk _)).below hb45,fun e=>by have:=(hown4.lt _ e).2;omega⟩
 have hres5:=aB H1.out hbw5 (by rw[HSZ.out];omega);have hcall5:=HACC.out W5 _ _ hbw hwr5 om (by have:=hb45.size;omega);obtain⟨b,hb⟩:∃ b,w4.heap.size=b:=⟨_,rfl⟩;rw[hb] at hs4 hwr5 hcall5 ⊢;have HC5:=Hh hcall5;have HR5:=Hh hres5;have HBW5:=Hh hbw;have HS4:=Hh hs4;clear hb45 hblk5 hbw5 hbw hwr5 hres5 hcall5 hb hd hd2 hb4 hbw4 hown4 t0 t1 hl0;go_wp2_with fail
 go_loopw [15] (fun i wr=>∃ j:Nat,j≤3∧i=.int .i64 j∧Hid (Below w w wr)∧Hid (wr.heap[w.heap.size+1]? = some (.cells #[(),zz] 53 (0,0)))∧Hid ((j=0∧wr=W5)∨(j=1∧∃ v1,WrAt wr b (w.heap.size+1+1) m v1 L1)∨(j=2∧∃ v1,WrAt wr b (w.heap.size+1+1) m v1 L2)∨(j=3∧∃ v1,WrAt wr b (w.heap.size+1+1) m v1 L3))) (fun i _=>3 - (intOf i).toNat)
 case atStart=>exact⟨0,om,rfl,HBW5,HR5,Hh (.inl ⟨rfl,rfl⟩)⟩
 case round =>
  obtain⟨j,hj,rfl,HB,HR,HJ⟩:=hrel;rcases HJ.out with⟨rfl,rfl⟩|⟨rfl,v1,hwr⟩|⟨rfl,v1,hwr⟩|⟨rfl,v1,hwr⟩
  · obtain⟨hix,_,_⟩:=nA (.func (.func 162) #[] #[]) (.func (.func 163) #[] #[]) (.func (.func 164) #[] #[]) wr;go_wp2_with fail
    refine HC5.out.mono ?_;rintro e w6 ⟨⟨u,rfl⟩,⟨v6,hwr6⟩,hb6⟩;have HR6:=Hh (aB HR.out hb6 (by have:=HS4.out;omega));have HB6:=Hh (HB.out.trans (hb6.mono om));have HW6:=Hh hwr6;clear hwr6 hb6;go_wp2_with fail
    go_roundw
    case rel=>exact⟨1,om,by go_num,HB6,HR6,Hh (.inr (.inl ⟨rfl,v6,HW6.out⟩))⟩
    case measure=>simp[intOf]
  · obtain⟨_,hix,_⟩:=nA (.func (.func 162) #[] #[]) (.func (.func 163) #[] #[]) (.func (.func 164) #[] #[]) wr;have hcall:=HEXC.out wr v1 b hwr (by have:=HS4.out;omega) (by have:=aA HR.out;omega) (by have:=HL.out;omega);have HC:=Hh hcall;clear hcall hwr;go_wp2_with fail
    refine HC.out.mono ?_;rintro e w6 ⟨⟨u,rfl⟩,⟨v6,hwr6⟩,hb6⟩;have HR6:=Hh (aB HR.out hb6 (by have:=HS4.out;omega));have HB6:=Hh (HB.out.trans (hb6.mono om));have HW6:=Hh hwr6;clear hwr6 hb6;go_wp2_with fail
    go_roundw
    case rel=>exact⟨2,om,by go_num,HB6,HR6,Hh (.inr (.inr (.inl ⟨rfl,v6,HW6.out⟩)))⟩
    case measure=>simp[intOf]
  · obtain⟨_,_,hix⟩:=nA (.func (.func 162) #[] #[]) (.func (.func 163) #[] #[]) (.func (.func 164) #[] #[]) wr;have hcall:=HNUM.out wr v1 b HB.out hwr (by have:=HS4.out;omega) (by have:=aA HR.out;omega) (by have:=HL.out;omega);have HC:=Hh hcall;clear hcall hwr;go_wp2_with fail
    refine HC.out.mono ?_;rintro e w6 ⟨⟨u,rfl⟩,hwr6,hb6⟩;have HR6:=Hh (aB HR.out hb6 (by have:=HS4.out;omega));have HB6:=Hh (HB.out.trans (hb6.mono om));have HW6:=Hh hwr6;clear hwr6 hb6;go_wp2_with fail
    go_roundw
    case rel=>exact⟨3,om,by go_num,HB6,HR6,Hh (.inr (.inr (.inr ⟨rfl,v1,HW6.out⟩)))⟩
    case measure=>simp[intOf]
  · obtain⟨t0,t1,_,_⟩:=aL hwr.blk;obtain⟨r0,r1,q0,q1⟩:=aL HR.out;have HWR:=Hh hwr;have hne:¬ b=w.heap.size+1:=by have:=HS4.out;omega
    have hlb:=aA hwr.blk;obtain⟨av,cv,hv,_,_⟩:=hwr.row.op;subst hv;clear hwr;go_wp2_with fail
    have hb9:((wr.setCell ⟨w+1,0,none⟩ m).setCell ⟨w+1,1,none⟩ (.slice av L3.length cv)).heap[w.heap.size+1]? = some (.cells #[m,.slice av L3.length cv] 53 (0,0)):=aG (aG HR.out);obtain⟨n0,n1,_,_⟩:=aL hb9;refine bodyPost_ret (v:=eU m (.slice av L3.length cv)) (by simp[results,results115,go_sem,n0,n1]) rfl ⟨_,rfl,?_,(HB.out.setCell (p:=⟨w+1,0,none⟩) (by show w.heap.size≤w.heap.size+1;omega) _).setCell (p:=⟨w+1,1,none⟩) (by show w.heap.size≤w.heap.size+1;omega) _⟩;exact ((HWR.out.row.kb ((Kb.refl (w.heap.size+1) wr).setCell 0 _) om).kb ((Kb.refl (w.heap.size+1) _).setCell 1 _) om).mono om
end
section
open Go.RowKit Go.Sort Go.Shelf
open Go.Proofs.Tryz
attribute [local go_sem] Oper.semAt_some
def mI (i:aY) (w:World) (e:Ending) (w':World):Prop :=
 ∃ v,e=.returned (.tuple #[cP ((gO i).1.getD ent0) v,.int .i64 (gO i).2])∧Row w' v ((gO i).1.getD ent0).args.length (opc ((gO i).1.getD ent0).args)∧Below w.heap.size w w'
theorem Pa (m:List UInt8) (v:Value) (l:List Op3) (w:World) (hT:TabsA w) (hr:Row w v l.length (opc l)) (hl:l.length≤1000) (k:Int) (hk:iR (m,l)=k) (hne:k≠0) :
 Calls prog 160 #[eU m v] w (mI (m,l) w):=by
 have hf:gO (m,l)=(none,k):=by unfold gO;rw[if_neg (by rw[hk];exact hne),hk]
 unfold mI;rw[hf];have hck:=fun X (hb:Below w w X)=>tF m v l X (hT.below hb) (hr.below hb) om;rw[hk] at hck;have HCK:=Hh hck;clear hck;have hne1:(k != 0)=true:=bne_iff_ne.2 hne;obtain⟨a,c,rfl,_,_⟩:=hr;clear hf hk hne;show Calls prog 160 #[eU m (.slice a l.length c)] w fun e w'=>∃ v,e=.returned (.tuple #[cP ent0 v,k])∧Row w' v ent0.args.length (opc ent0.args)∧Below w w w'
 go_enter func160,ntmps160
 go_wp2_with fail
 have hbW:Below w w (((w.alloc (.cells #[m,.slice a l.length c] 53)).alloc (.cells #[(0:Int),.int .u8 0,(),zz,(),.bool false] 211)).alloc (.cells #[(0:Int)] 49)):=bl;refine (HCK.out _ hbW).mono ?_;rintro e w2 ⟨rfl,hb2⟩;have h1:=aB (aE (o':=.cells #[(0:Int)] 49) (aF (w.alloc (.cells #[m,.slice a l.length c] 53)) (.cells #[(0:Int),.int .u8 0,(),zz,(),.bool false] 211))) hb2 sm;have h2:=aB (aF ((w.alloc (.cells #[m,.slice a l.length c] 53)).alloc (.cells #[(0:Int),.int .u8 0,(),zz,(),.bool false] 211)) (.cells #[(0:Int)] 49)) hb2 sm;simp only[Qa] at h1 h2;obtain⟨⟨k0,k1,k2,k3,k4,k5⟩,f0,f1,f2,f3,f4,f5⟩:=aN h1;have r0:w2.cell? ⟨w.heap.size+1+1,0,none⟩=some (.int .i64 0):=by rw[aC h2];rfl
 have q0:w2.frozen? ⟨w.heap.size+1+1,0,none⟩=false:=aH h2 0;have H1:=Hh h1;have H2:=Hh h2;have HB2:=Hh (hbW.trans (hb2.mono hbW.size));clear hbW hb2 h1 h2;go_wp2_with fail
 have hfin:∀ v0 v1 v2 v3 v4 v5 vk,((((((((w2.setCell ⟨w+1,0,none⟩ v0).setCell ⟨w+1,1,none⟩ v1).setCell ⟨w+1,2,none⟩ v2).setCell ⟨w+1,3,none⟩ v3).setCell ⟨w+1,4,none⟩ v4).setCell ⟨w+1,5,none⟩ v5).setCell ⟨w.heap.size+1+1,0,none⟩ vk)).heap[w.heap.size+1]? = some (.cells #[v0,v1,v2,v3,v4,v5] 211 (0,0))∧((((((((w2.setCell ⟨w+1,0,none⟩ v0).setCell ⟨w+1,1,none⟩ v1).setCell ⟨w+1,2,none⟩ v2).setCell ⟨w+1,3,none⟩ v3).setCell ⟨w+1,4,none⟩ v4).setCell ⟨w+1,5,none⟩ v5).setCell ⟨w.heap.size+1+1,0,none⟩ vk)).heap[w.heap.size+1+1]? = some (.cells #[vk] 49 (0,0)):=fun v0 v1 v2 v3 v4 v5 vk=>⟨aD (aG (aG (aG (aG (aG (aG H1.out)))))) om,aG (aD (aD (aD (aD (aD (aD H2.out om) om) om) om) om) om)⟩;obtain⟨g1,g2⟩:=hfin (.int .i64 0) (.int .u8 0) (.string ⟨#[]⟩) (.slice none 0 0) (.string ⟨#[]⟩) (.bool false) (.int .i64 k);obtain⟨⟨n0,n1,n2,n3,n4,n5⟩,_⟩:=aN g1;have n6:=aC g2 0;simp only[List.getElem?_toArray,Zg] at n6;have hb9:=HB2.out;refine bodyPost_ret (v:=.tuple #[cP ent0 (.slice none 0 0),k]) (by simp[results,results160,go_sem,n0,n1,n2,n3,n4,n5,n6,ent0]) rfl ⟨_,rfl,(WRow.nil _ 0).row,?_⟩;with_reducible repeat (refine Below.setCell ?_ (by first|exact Qk _|exact Xn _|(show w.heap.size≤w.heap.size+1+1;omega)) _)
 exact hb9
theorem Row.setOther {W:World} {n k i:Nat} {v u:Value} {xs:List Value} (h:Row W v n xs) (hne:xs≠[]→v.ownBlock≠some k):Row (W.setCell ⟨k,i,none⟩ u) v n xs:=by
 obtain⟨a,cap,hv,hn,h⟩:=h;refine⟨a,cap,hv,hn,fun hx=>?_⟩;obtain⟨g,o,rfl,hg,hc⟩:=h hx;have hgk:g≠k:=fun e=>hne hx (by rw[hv,e];rfl);exact⟨g,o,rfl,by rw[setCell_size];exact hg,fun j hj=>(World.cell?_of_block (a:=⟨g,o+j,none⟩) (Below.heap_setCell W ⟨k,i,none⟩ u g hgk)).trans (hc j hj)⟩
theorem Row.own_lt {w:World} {n:Nat} {v:Value} {xs:List Value} (h:Row w v n xs) (hx:xs≠[]):∃ g,v.ownBlock=some g∧g<w.heap.size:=by
 obtain⟨a,cap,rfl,hn,h⟩:=h;obtain⟨g,o,rfl,hg,_⟩:=h hx;exact⟨g,rfl,hg⟩
structure FI (b0 b5:Nat) (m:List UInt8) (v:Value) (C:List Op3) (code:Int) (W:World):Prop where
 r1:W.heap[b0+1]? = some (.cells #[.int .i64 0,.int .u8 0,.string ⟨#[]⟩,.slice none 0 0,.string ⟨#[]⟩,.bool false] 211 (0,0))
 r2:W.heap[b0+1+1]? = some (.cells #[.int .i64 0] 49 (0,0))
 r5:W.heap[b5]? = some (.cells #[.string ⟨m.toArray⟩,v] 53 (0,0))
 r6:W.heap[b5+1]? = some (.cells #[.int .i64 code] 49 (0,0))
 row:Row W v C.length (opc C)
theorem FI.keep {b0 b5:Nat} {m:List UInt8} {v:Value} {C:List Op3} {code:Int} {W W':World} (h:FI b0 b5 m v C code W) (hk:fV 0 W W'):FI b0 b5 m v C code W' :=
 ⟨hk.2 _ _ (Qi _) h.r1 rfl,hk.2 _ _ (Qi _) h.r2 rfl,hk.2 _ _ (Qi _) h.r5 rfl,hk.2 _ _ (Qi _) h.r6 rfl,h.row.keepC hk⟩
structure FX (b0:Nat) (x:Ent × Value) (W:World):Prop where
 r1:W.heap[b0+1]? = some (.cells #[.int .i64 x.1.page,.int .u8 x.1.op,.string ⟨x.1.mn.toArray⟩,x.2,.string ⟨x.1.extra.toArray⟩,.bool x.1.alias] 211 (0,0))
 r2:W.heap[b0+1+1]? = some (.cells #[.int .i64 0] 49 (0,0))
 row:Row W x.2 x.1.args.length (opc x.1.args)
theorem FX.keep {b0:Nat} {x:Ent × Value} {W W':World} (h:FX b0 x W) (hk:fV 0 W W'):FX b0 x W' :=
 ⟨hk.2 _ _ (Qi _) h.r1 rfl,hk.2 _ _ (Qi _) h.r2 rfl,h.row.keepC hk⟩
theorem Io (m:List UInt8) (v:Value) (l:List Op3) (w:World) (hT:TabsA w) (hr:Row w v l.length (opc l)) (hk:iR (m,l)=0) :
 Calls prog 160 #[eU m v] w (mI (m,l) w):=by
 have hf:gO (m,l)=Dc (bV (m,l)):=by unfold gO;rw[if_pos hk]
 unfold mI;rw[hf];obtain⟨hmo,hl3,_⟩:=qK hk;dsimp only at hmo hl3;obtain⟨hup,hmne,hml⟩:=aPH hmo;have hck:=fun X (hb:Below w w X)=>tF m v l X (hT.below hb) (hr.below hb) om;rw[hk] at hck;have hof:=fun X (hb:Below w w X)=>Nb m v l X (hT.below hb) (hr.below hb) om;have hcl:=kM (m,l);have hpg:=Ab hk;have hc1:(bV (m,l)).1=m:=rfl;unfold Dc;rw[hc1,←hpg];have hcp:bV (m,l)=(m,(bV (m,l)).2):=rfl;rw[hcp];obtain⟨C,hC⟩:∃ C,(bV (m,l)).2=C:=⟨_,rfl⟩;rw[hC] at hof hcl ⊢;dsimp only at hcl;clear hpg hc1 hcp hC hf hk;have hmem:=fun e (he:e∈dP m (bW C))=>Ce (pF C).2.2 he;have hcand:=fun n b (hn:1≤n) cv=>Uc n b hn m cv C om;obtain⟨es,hes⟩:∃ es,dP m (bW C)=es:=⟨_,rfl⟩;rw[hes] at hmem;simp only[hes] at hcand;rw[hes];clear hes;obtain⟨RES,hRES⟩:∃ RES,kQ (fun e=>(lR e (m,C)).isSome) (m,C) es 11=RES:=⟨_,rfl⟩;rw[hRES];have HRES:=Hh hRES;clear hRES;have hcd:=fun a n c X=>tG m a n c X;have HCD:=Hh hcd;clear hcd;have HCK:=Hh hck;clear hck;have HOF:=Hh hof;clear hof;have HCAND:=Hh hcand;clear hcand;have HMEM:=Hh hmem;clear hmem;have HTT:=Hh hT;clear hT;have HRR:=Hh hr;obtain⟨a,c,rfl,_,_⟩:=hr;refine (callsIn_wide (n:=3)).1 ?_;refine callsIn_of_wp_marks func160 rfl trivial ?_ rfl;simp only[ntmps160,Qx,Qp,Qz,Nat.reduceAdd,Nat.reduceSub,Array.replicate_succ,Array.replicate_zero,List.push_toArray,List.append_toArray,Ye,Xy];refine wpIn_wide.2 ?_;go_wp2_with fail
 have hbW:Below w w (((w.alloc (.cells #[m,.slice a l.length c] 53)).alloc (.cells #[(0:Int),.int .u8 0,(),zz,(),.bool false] 211)).alloc (.cells #[(0:Int)] 49)):=bl;refine (HCK.out _ hbW).mono ?_;rintro e w2 ⟨rfl,hb2⟩;have h0:=aB (aE (o':=.cells #[(0:Int)] 49) (aE (o':=.cells #[(0:Int),.int .u8 0,(),zz,(),.bool false] 211) (aF w (.cells #[m,.slice a l.length c] 53)))) hb2 (by simp;omega);have h1:=aB (aE (o':=.cells #[(0:Int)] 49) (aF (w.alloc (.cells #[m,.slice a l.length c] 53)) (.cells #[(0:Int),.int .u8 0,(),zz,(),.bool false] 211))) hb2 sm;have h2:=aB (aF ((w.alloc (.cells #[m,.slice a l.length c] 53)).alloc (.cells #[(0:Int),.int .u8 0,(),zz,(),.bool false] 211)) (.cells #[(0:Int)] 49)) hb2 sm;simp only[Qa] at h1 h2;obtain⟨k0,k1,_,_⟩:=aL h0;have H1:=Hh h1;have H2:=Hh h2;have HB2:=Hh (hbW.trans (hb2.mono hbW.size));have hs2:=aA h2;have hl0:w.heap.size<w2.heap.size:=om
 clear hbW hb2 h0 h1 h2;go_wp2_with fail
 refine (HOF.out _ HB2.out).mono ?_;rintro e w3 ⟨v3,rfl,hrow3,hb3⟩;have h13:=aB H1.out hb3 om;have h23:=aB H2.out hb3 hs2;have hb3w:=HB2.out.trans (hb3.mono HB2.out.size);have hs3:w.heap.size+1+1<w3.heap.size:=aA h23;obtain⟨a3,c3,hv3,_,_⟩:=hrow3.op;subst hv3;have hrw3:=hrow3.row;clear hrow3 k0 k1 hl0 hs2;go_wp2_with fail
 have hcd4:=HCD.out a3 C.length c3 ((w3.alloc (.cells #[m,.slice a3 C.length c3] 53)).alloc (.cells #[(11:Int)] 49));simp only[Qa] at hcd4;refine hcd4.mono ?_;rintro e w4 ⟨rfl,hw4⟩;have g1:w4.heap[w.heap.size+1]? = some (.cells #[(0:Int),.int .u8 0,(),zz,(),.bool false] 211 (0,0)):=by rw[hw4];exact aE (aE (aE h13))
 have g2:w4.heap[w.heap.size+1+1]? = some (.cells #[(0:Int)] 49 (0,0)):=by rw[hw4];exact aE (aE (aE h23))
 have g5:w4.heap[w3.heap.size]? = some (.cells #[m,.slice a3 C.length c3] 53 (0,0)):=by rw[hw4];exact aE (aE (aF _ _))
 have g6:w4.heap[w3.heap.size+1]? = some (.cells #[(11:Int)] 49 (0,0)):=by
  rw[hw4]
  have:=aF (w3.alloc (.cells #[m,.slice a3 C.length c3] 53)) (.cells #[(11:Int)] 49)
  rw[Qa] at this;exact aE this
 have gb:w4.heap[w3.heap.size+1+1]? = some (.cells #[m,.slice a3 C.length c3] 53 (0,0)):=by
  rw[hw4]
  have:=aF ((w3.alloc (.cells #[m,.slice a3 C.length c3] 53)).alloc (.cells #[(11:Int)] 49)) (.cells #[m,.slice a3 C.length c3] 53)
  simpa only[Qa] using this
 have hal:Below w3 w3 w4:=by rw[hw4];exact ((br.alloc lr _).alloc sm _).alloc (by simp;omega) _
 have hrw4:=hrw3.below hal;have hb4:=hb3w.trans (hal.mono hb3w.size);have hT4:=HTT.out.below hb4;have hs4:w3.heap.size+1+1<w4.heap.size:=aA gb;have HG:=Hh (show FI w.heap.size w3.heap.size m (.slice a3 C.length c3) C 11 w4 from⟨g1,g2,g5,g6,hrw4⟩)
 have HGB:=Hh (And.intro gb (And.intro hT4 hrw4));have HB4:=Hh hb4;obtain⟨B5,hB5⟩:∃ B5,w3.heap.size=B5:=⟨_,rfl⟩;rw[hB5] at HG HGB hs3 hs4 ⊢;have hown5:opc C≠[]→(Value.slice a3 C.length c3).ownBlock≠some (w3.heap.size+1):=fun hx e=>by
  obtain⟨g,h1,h2⟩:=hrw3.own_lt hx;rw[h1] at e
  have:=Xi e
  omega
 rw[hB5] at hown5;have HOWN5:=Hh hown5;clear hown5 g1 g2 g5 g6 gb hal hrw4 hb4 hT4 hw4 hcd4 hrw3 h13 h23 hb3w hb3 hB5;go_wp2_with fail
 refine (wpIn_wide (n:=3)).1 ?_;refine cM rfl dc (gf:=238) (lb:=#[.pointer (some ⟨B5+1+1,0,none⟩)]) rfl trivial (enters_of func238 kr rfl)
  (HCAND.out 2 (B5+1+1) dc (.slice a3 C.length c3))
  (fun o o'=>⟨aE (aE HGB.out.1),HGB.out.2.1.below ((br.alloc lr o).alloc (by rw[Qa];omega) o'),HGB.out.2.2.below ((br.alloc lr o).alloc (by rw[Qa];omega) o')⟩)
  (fun A B k o h hk _ _=>aB hk h (aA hk)) wM (fun W l o o' _ hl hc _=>cC W l o o' hl hc) (fun x W l o o' h _ hl hc=>⟨h.1,h.2.keepC (cC (b:=0) W l o o' hl hc) (Qi _)⟩) (fun _=>rfl)
  (fun pre W=>(∃ code:Int,(∀ rest,kQ (fun e=>(lR e (m,C)).isSome) (m,C) (pre.map Prod.fst++rest) 11=kQ (fun e=>(lR e (m,C)).isSome) (m,C) rest code)∧FI w B5 m (.slice a3 C.length c3) C code W)∧Below w w W)
  (fun cd pre W=>(cd=.ret∧∃ q x,pre=q++[x]∧(∀ rest,kQ (fun e=>(lR e (m,C)).isSome) (m,C) (pre.map Prod.fst++rest) 11=(some x.1,0))∧FX w x W)∧Below w w W)
  ?hI ?hIs ?hIx ?hIxs ⟨⟨11,fun rest=>rfl,HG.out⟩,HB4.out⟩
  (fun x W=>{ tmps:=#[eU m (.slice a l.length c),.pointer w,.pointer (w+1:Nat),.pointer (some ⟨w.heap.size+1+1,0,none⟩),.int .i64 0,.pointer (some ⟨B5,0,none⟩),.pointer (B5+1:Nat),.pointer (some ⟨W,0,none⟩),undef,undef,undef,.agg #[m,.slice a l.length c],.int .i64 0,.int .i64 0,.bool false,undef,undef,.agg #[m,.slice a l.length c],eU m (.slice a3 C.length c3),.agg #[m,.slice a3 C.length c3],.func (.func 238) #[] #[.pointer (some ⟨B5+1+1,0,none⟩)],cP x.1 x.2,undef,undef,undef,undef,undef,undef,undef,undef,undef,undef,undef,undef,undef,undef,undef,undef,undef,undef,undef],defers:=[] })
  (fun x W=>W.alloc (.cells #[x.1.page,.int .u8 x.1.op,x.1.mn,x.2,x.1.extra,.bool x.1.alias] 211))
  (fun x a' W=>∃ k,a'={ tmps:=#[eU m (.slice a l.length c),.pointer w,.pointer (w+1:Nat),.pointer (some ⟨w.heap.size+1+1,0,none⟩),.int .i64 0,.pointer (some ⟨B5,0,none⟩),.pointer (B5+1:Nat),.pointer (some ⟨k,0,none⟩),undef,undef,undef,.agg #[m,.slice a l.length c],.int .i64 0,.int .i64 0,.bool false,undef,undef,.agg #[m,.slice a l.length c],eU m (.slice a3 C.length c3),.agg #[m,.slice a3 C.length c3],.func (.func 238) #[] #[.pointer (some ⟨B5+1+1,0,none⟩)],cP x.1 x.2,undef,undef,undef,undef,undef,undef,undef,undef,undef,undef,undef,undef,undef,undef,undef,undef,undef,undef,undef],defers:=[] }∧W.heap[k]? = some (.cells #[x.1.page,.int .u8 x.1.op,x.1.mn,x.2,x.1.extra,.bool x.1.alias] 211 (0,0)))
  ?assign (fun x W=>br.alloc lr _) (fun x W=>cA (br.alloc lr _)) (fun x W h=>⟨h.1,h.2.below (br.alloc lr _)⟩) (fun x W=>⟨_,rfl,aF _ _⟩) (fun x a' W l o o' ⟨k,h1,h2⟩ _ hl hc=>⟨k,h1,(cC (b:=0) W l o o' hl hc).2 _ _ (Qi _) h2 rfl⟩) ?body ?done ?stop
 case hI=>exact OwnFrom.and (fun s A B row ⟨code,h1,h2⟩ hg hr=>⟨code,h1,h2.keep (fG hg hr)⟩) (ownFrom_below lr HB4.out.size)
 case hIs=>exact fun s A B ⟨⟨code,h1,h2⟩,h3⟩ hs=>⟨⟨code,h1,h2.keep (cA hs)⟩,h3.trans (hs.mono h3.size)⟩
 case hIx=>exact fun cd=>OwnFrom.and (fun s A B row ⟨h0,q,x,h1,h2,h3⟩ hg hr=>⟨h0,q,x,h1,h2,h3.keep (fG hg hr)⟩) (ownFrom_below lr HB4.out.size)
 case hIxs=>exact fun cd s A B ⟨⟨h0,q,x,h1,h2,h3⟩,h4⟩ hs=>⟨⟨h0,q,x,h1,h2,h3.keep (cA hs)⟩,h4.trans (hs.mono h4.size)⟩
 case assign =>
  rintro l ⟨⟨page,op,mn,args,ex,al⟩,vx⟩ W K ⟨_,hgr⟩ hK;dsimp only at hgr hK;obtain⟨ax,cx,rfl,_,_⟩:=hgr;gi_wp2
  exact hK
 case body =>
  rintro lp pre ⟨⟨page,op,mn,args,ex,al⟩,vx⟩ a' W ⟨⟨code,hsc,hfi⟩,hbl⟩ ⟨hgm,hgr⟩ ⟨k,rfl,hk⟩ hN;dsimp only at hgr hk;have hgw:=hgr;replace hgr:=hgr.row;obtain⟨hmn,hal3⟩:=HMEM.out _ hgm;dsimp only at hmn hal3;have hsh:=fun X (hb:Below W W X)=>mX ⟨page,op,mn,args,ex,al⟩ vx m (.slice a3 C.length c3) C X (hgr.below hb) (hfi.row.below hb) (by dsimp only;omega) (by dsimp only;rw[hmn];omega) om om;have hft:=fun X (hb:Below W W X)=>Ga ⟨page,op,mn,args,ex,al⟩ vx m (.slice a3 C.length c3) C X (hgr.below hb) (hfi.row.below hb) (by dsimp only;omega) (by dsimp only;rw[hmn];omega) om om hup hmne;obtain⟨sh,hsheq⟩:∃ sh,cT ⟨page,op,mn,args,ex,al⟩ (m,C)=sh:=⟨_,rfl⟩;obtain⟨ft,hfteq⟩:∃ ft,lR ⟨page,op,mn,args,ex,al⟩ (m,C)=ft:=⟨_,rfl⟩;rw[hsheq] at hsh;rw[hfteq] at hft;have HSH:=Hh hsh;have HFT:=Hh hft;have HSE:=Hh hsheq;have HFE:=Hh hfteq;have HSC:=Hh hsc;have HFI:=Hh hfi;have HBL:=Hh hbl;have HGR:=Hh hgw;have HK:=Hh hk;obtain⟨ax,cx,hvx,_,_⟩:=hgr;subst hvx;clear hsh hft hsheq hfteq hsc hgm hal3 hmn hgw;obtain⟨⟨k0,k1,k2,k3,k4,k5⟩,_⟩:=aN hk;obtain⟨c0,c1,_,_⟩:=aL hfi.r5;have hlk:=aA hk;have hl5:=aA hfi.r5;have hl6:=aA hfi.r6;clear hfi hk hbl;cases al with
  | true =>
    gi_wp2_with fail
    refine⟨trivial,?_⟩;gi_wp2_with fail
    exact⟨KeepsOthers.refl _,⟨Qk _,fun _ _ _ h _=>h⟩,⟨⟨code,fun rest=>by rw[Ym,Yc,HSC.out];exact uL rfl rest code,HFI.out⟩,HBL.out⟩⟩
  | false =>
    gi_wp2_with fail
    refine⟨trivial,?_⟩;refine (CallsIn.inRound lp (callsIn_wide.2 (HSH.out _ br))).mono ?_;rintro e W1 ⟨rfl,hb1⟩;have hk1:=aB HK.out hb1 hlk;have hfi1:=HFI.out.keep (cA hb1);have hft1:=HFT.out _ hb1;have HFI1:=Hh hfi1;have HK1:=Hh hk1;have HB1:=Hh hb1;have HBL1:=Hh (HBL.out.trans (hb1.mono HBL.out.size));clear k0 k1 k2 k3 k4 k5 c0 c1 hb1;obtain⟨⟨k0,k1,k2,k3,k4,k5⟩,_⟩:=aN hk1;obtain⟨c0,c1,_,_⟩:=aL hfi1.r5;clear hk1 hfi1;cases sh with
    | false =>
      gi_wp2_with fail
      exact⟨lO HB1.out,cA HB1.out,⟨⟨code,fun rest=>by rw[Ym,Yc,HSC.out];exact uL (by rw[HSE.out];rfl) rest code,HFI1.out⟩,HBL1.out⟩⟩
    | true =>
      cases ft with
      | none =>
        have hft2:Calls prog 203 #[.agg #[page,.int .u8 op,mn,.slice ax args.length cx,ex,.bool false],.agg #[m,.slice a3 C.length c3]] W1 fun e w'=>e=.returned (.tuple #[(0:Int),(0:Int),.bool false])∧Below W1 W1 w':=hft1;have HF2:=Hh hft2;clear hft1 hft2;gi_wp2_with fail
        refine⟨trivial,?_⟩;refine (CallsIn.inRound lp (callsIn_wide.2 HF2.out)).mono ?_;rintro e W2 ⟨rfl,hb2⟩;have hfi2:=HFI1.out.keep (cA hb2);have HFI2:=Hh hfi2;have HB2:=Hh (HB1.out.trans (hb2.mono HB1.out.size));have HBL2:=Hh (HBL1.out.trans (hb2.mono HBL1.out.size));have q6:W2.cell? ⟨B5+1,0,none⟩=some (.int .i64 code):=by rw[aC hfi2.r6];rfl
        have q7:W2.frozen? ⟨B5+1,0,none⟩=false:=aH hfi2.r6 0;have hl62:=aA hfi2.r6;clear hfi2 hb2 k0 k1 k2 k3 k4 k5 c0 c1;gi_wp2_with fail
        refine⟨(lO HB2.out).trans (KeepsOthers.setCell _ _ _),wM (cA HB2.out) (Hi _ _ om),⟨⟨2,fun rest=>by rw[Ym,Yc,HSC.out];exact Gd (by rw[HSE.out];rfl) (by rw[HFE.out];rfl) rest code,⟨aD HFI2.out.r1 om,aD HFI2.out.r2 om,aD HFI2.out.r5 om,aG HFI2.out.r6,?_⟩⟩,HBL2.out.setCell (p:=⟨B5+1,0,none⟩) (by show w.heap.size≤B5+1;omega) _⟩⟩
        exact HFI2.out.row.setOther HOWN5.out
      | some dn =>
        obtain⟨d,nn⟩:=dn;have hft2:Calls prog 203 #[.agg #[page,.int .u8 op,mn,.slice ax args.length cx,ex,.bool false],.agg #[m,.slice a3 C.length c3]] W1 fun e w'=>e=.returned (.tuple #[d,nn,.bool true])∧Below W1 W1 w':=hft1;have HF2:=Hh hft2;clear hft1 hft2;gi_wp2_with fail
        refine⟨trivial,?_⟩;refine (CallsIn.inRound lp (callsIn_wide.2 HF2.out)).mono ?_;rintro e W2 ⟨rfl,hb2⟩;have hfi2:=HFI1.out.keep (cA hb2);have hk2:=aB HK1.out hb2 (aA HK1.out);have HFI2:=Hh hfi2;have HB2:=Hh (HB1.out.trans (hb2.mono HB1.out.size));have HBL2:=Hh (HBL1.out.trans (hb2.mono HBL1.out.size));have HGR2:=Hh (HGR.out.below HB2.out);clear k0 k1 k2 k3 k4 k5 c0 c1;obtain⟨⟨k0,k1,k2,k3,k4,k5⟩,_⟩:=aN hk2;obtain⟨⟨z0,z1,z2,z3,z4,z5⟩,y0,y1,y2,y3,y4,y5⟩:=aN hfi2.r1;have q6:W2.cell? ⟨w.heap.size+1+1,0,none⟩=some (.int .i64 0):=by rw[aC hfi2.r2];rfl
        have q7:W2.frozen? ⟨w.heap.size+1+1,0,none⟩=false:=aH hfi2.r2 0;have hl12:=aA hfi2.r1;have hl22:=aA hfi2.r2;clear hfi2 hb2 hk2;gi_wp2_with fail
        refine⟨?_,⟨rfl,pre,(⟨page,op,mn,args,ex,false⟩,.slice ax args.length cx),rfl,fun rest=>by rw[Ym,Yc,HSC.out];exact Lu (by rw[HSE.out];rfl) (by rw[HFE.out];rfl) rest code,⟨aD (aG (aG (aG (aG (aG (aG HFI2.out.r1)))))) om,aG (aD (aD (aD (aD (aD (aD HFI2.out.r2 om) om) om) om) om) om),?_⟩⟩,?_⟩
        · with_reducible repeat (refine KeepsOthers.trans ?_ (KeepsOthers.setCell _ _ _))
          exact lO HB2.out
        · have hz:=(((((((Kb.refl (w.heap.size+1) W2).setCell 0 (.int .i64 page)).setCell 1 (.int .u8 op)).setCell 2 (.string ⟨mn.toArray⟩)).setCell 3 (.slice ax args.length cx)).setCell 4 (.string ⟨ex.toArray⟩)).setCell 5 (.bool false));exact ((HGR2.out.kb hz om).kb ((Kb.refl (w.heap.size+1+1) _).setCell 0 (.int .i64 0)) om).row
        · have hb9:=HBL2.out;with_reducible repeat (refine Below.setCell ?_ (by first|exact Qk _|exact Xn _|(show w.heap.size≤w.heap.size+1+1;omega)) _)
          exact hb9
 case done =>
  rintro D ys W hD hys ⟨⟨code,hsc,hfi⟩,hbl⟩ hK;have hres:=hsc [];rw[Zd,hys,HRES.out] at hres;have HR:=Hh (show RES=(none,code) from hres)
  have HFI:=Hh hfi;have HBL:=Hh hbl;obtain⟨⟨z0,z1,z2,z3,z4,z5⟩,y0,y1,y2,y3,y4,y5⟩:=aN hfi.r1;have q6:W.cell? ⟨w.heap.size+1+1,0,none⟩=some (.int .i64 0):=by rw[aC hfi.r2];rfl
  have q7:W.frozen? ⟨w.heap.size+1+1,0,none⟩=false:=aH hfi.r2 0;have q8:W.cell? ⟨B5+1,0,none⟩=some (.int .i64 code):=by rw[aC hfi.r6];rfl
  have hl12:=aA hfi.r1;have hl22:=aA hfi.r2;have hl62:=aA hfi.r6;have hchain:∀ v0 v1 v2 v3 v4 v5 vk,((((((((W.setCell ⟨w+1,0,none⟩ v0).setCell ⟨w+1,1,none⟩ v1).setCell ⟨w+1,2,none⟩ v2).setCell ⟨w+1,3,none⟩ v3).setCell ⟨w+1,4,none⟩ v4).setCell ⟨w+1,5,none⟩ v5).setCell ⟨w.heap.size+1+1,0,none⟩ vk)).drew.heap[w.heap.size+1]? = some (.cells #[v0,v1,v2,v3,v4,v5] 211 (0,0))∧((((((((W.setCell ⟨w+1,0,none⟩ v0).setCell ⟨w+1,1,none⟩ v1).setCell ⟨w+1,2,none⟩ v2).setCell ⟨w+1,3,none⟩ v3).setCell ⟨w+1,4,none⟩ v4).setCell ⟨w+1,5,none⟩ v5).setCell ⟨w.heap.size+1+1,0,none⟩ vk)).drew.heap[w.heap.size+1+1]? = some (.cells #[vk] 49 (0,0))∧((((((((W.setCell ⟨w+1,0,none⟩ v0).setCell ⟨w+1,1,none⟩ v1).setCell ⟨w+1,2,none⟩ v2).setCell ⟨w+1,3,none⟩ v3).setCell ⟨w+1,4,none⟩ v4).setCell ⟨w+1,5,none⟩ v5).setCell ⟨w.heap.size+1+1,0,none⟩ vk)).drew.heap[D]? = some (.deferred (some []))∧Below w w ((((((((W.setCell ⟨w+1,0,none⟩ v0).setCell ⟨w+1,1,none⟩ v1).setCell ⟨w+1,2,none⟩ v2).setCell ⟨w+1,3,none⟩ v3).setCell ⟨w+1,4,none⟩ v4).setCell ⟨w+1,5,none⟩ v5).setCell ⟨w.heap.size+1+1,0,none⟩ vk)).drew:=fun v0 v1 v2 v3 v4 v5 vk=>by
   refine⟨tI ?_,tI ?_,tI ?_,?_⟩
   · exact aD (aG (aG (aG (aG (aG (aG HFI.out.r1)))))) om
   · exact aG (aD (aD (aD (aD (aD (aD HFI.out.r2 om) om) om) om) om) om)
   · exact aD (aD (aD (aD (aD (aD (aD hK om) om) om) om) om) om) om
   · refine Below.drew ?_;have hb9:=HBL.out;with_reducible repeat (refine Below.setCell ?_ (by first|exact Qk _|exact Xn _|(show w.heap.size≤w.heap.size+1+1;omega)) _)
     exact hb9
  obtain⟨g1,g2,g3,g4⟩:=hchain (.int .i64 0) (.int .u8 0) (.string ⟨#[]⟩) (.slice none 0 0) (.string ⟨#[]⟩) (.bool false) (.int .i64 code);have hDw:w.heap.size≤D:=by have:=HB4.out.size;omega
  have HG1:=Hh g1;have HG2:=Hh g2;have HG3:=Hh g3;have HG4:=Hh g4;clear hsc hfi hbl hres hys hchain g1 g2 g3 g4;go_wp2_with fail
  go_region
  all_goals
   obtain⟨X,hX⟩:∃ X,((((((((W.setCell ⟨w+1,0,none⟩ (0:Int)).setCell ⟨w+1,1,none⟩ (.int .u8 0)).setCell ⟨w+1,2,none⟩ ()).setCell ⟨w+1,3,none⟩ zz).setCell ⟨w+1,4,none⟩ ()).setCell ⟨w+1,5,none⟩ (.bool false)).setCell ⟨w.heap.size+1+1,0,none⟩ code)).drew=X:=⟨_,rfl⟩;rw[hX] at HG1 HG2 HG3 HG4 ⊢;clear hX;go_wp2_with fail
   refine⟨by simp,.inl ⟨_,_,rfl,run_takeDeferred HG3.out,?_⟩⟩
   obtain⟨⟨n0,n1,n2,n3,n4,n5⟩,_⟩:=aN ((cC (b:=0) X D _ (.deferred none) HG3.out rfl).2 _ _ (Qi _) HG1.out rfl);have n6:=aC ((cC (b:=0) X D _ (.deferred none) HG3.out rfl).2 _ _ (Qi _) HG2.out rfl) 0;simp only[List.getElem?_toArray,Zg] at n6;refine⟨.tuple #[cP ent0 (.slice none 0 0),code],?_,⟨_,by rw[HR.out];rfl,by rw[HR.out];exact (WRow.nil _ 0).row,HG4.out.trans (belowK_b (w:=w) lr X D _ _ hDw HG3.out rfl rfl)⟩⟩
   simp[results,Tryz.f160,go_sem,n0,n1,n2,n3,n4,n5,n6,ent0]
 case stop =>
  rintro D cd pre W hD hpre ⟨⟨rfl,q,x,hq,hsc,hfx⟩,hbl⟩ hK;obtain⟨rest,hrest⟩:=hpre;have hres:=hsc rest;rw[hrest,HRES.out] at hres;have HR:=Hh (show RES=(some x.1,0) from hres)
  have hDw:w.heap.size≤D:=by have:=HB4.out.size;omega
  obtain⟨⟨n0,n1,n2,n3,n4,n5⟩,_⟩:=aN ((cC (b:=0) W D _ (.deferred none) hK rfl).2 _ _ (Qi _) hfx.r1 rfl);have n6:=aC ((cC (b:=0) W D _ (.deferred none) hK rfl).2 _ _ (Qi _) hfx.r2 rfl) 0;simp only[List.getElem?_toArray,Zg] at n6;have hrowx:=hfx.row.keepC (cC (b:=0) W D _ (.deferred none) hK rfl);obtain⟨⟨page,op,mn,args,ex,al⟩,vx⟩:=x;dsimp only at n0 n1 n2 n3 n4 n5 hrowx;obtain⟨ax,cx,rfl,hcx,hxx⟩:=hrowx;have HROWX:=Hh (show Row _ (.slice ax args.length cx) args.length (opc args) from⟨_,_,rfl,hcx,hxx⟩)
  clear hsc hfx hres hrest hq hxx;gi_wp2
  refine⟨by simp,.inl ⟨_,_,rfl,run_takeDeferred hK,?_⟩⟩
  refine⟨.tuple #[cP ⟨page,op,mn,args,ex,al⟩ (.slice ax args.length cx),(0:Int)],?_,⟨_,by rw[HR.out];rfl,by rw[HR.out];exact HROWX.out,hbl.trans (belowK_b (w:=w) lr W D _ _ hDw hK rfl rfl)⟩⟩
  simp[results,Tryz.f160,go_sem,n0,n1,n2,n3,n4,n5,n6]
theorem Iq (m:List UInt8) (v:Value) (l:List Op3) (w:World) (hT:TabsA w) (hr:Row w v l.length (opc l)) (hl:l.length≤1000):Calls prog 160 #[eU m v] w (mI (m,l) w):=by
 by_cases hk:iR (m,l)=0
 · exact Io m v l w hT hr hk
 · exact Pa m v l w hT hr hl _ rfl hk
end
section
open Go.RowKit Go.Sort
open Go.Proofs.Tryz
theorem Cm (m:List UInt8) (v:Value) (l:List Op3) (w:World) (hT:TabsA w) (hr:Row w v l.length (opc l)) (hl:l.length≤1000) (R:Bool) (hR:decide ((gO (m,l)).2≠0)=R) :
 Calls prog 159 #[eU m v] w fun e w'=>e=.returned (.bool R)∧Below w w w':=by
 have hf:=fun X (hb:Below w w X)=>Iq m v l X (hT.below hb) (hr.below hb) hl;unfold mI at hf;obtain⟨F,hF⟩:∃ F,gO (m,l)=F:=⟨_,rfl⟩;simp only[hF] at hf hR;obtain⟨fo,fc⟩:=F;dsimp only at hf hR;obtain⟨E,hE⟩:∃ E,fo.getD ent0=E:=⟨_,rfl⟩;simp only[hE] at hf;obtain⟨page,op,mn,args,ex,al⟩:=E;have hf2:∀ X,Below w w X→Calls prog 160 #[eU m v] X fun e w'=>∃ v,e=.returned (.tuple #[.agg #[page,.int .u8 op,mn,v,ex,.bool al],fc])∧Row w' v args.length (opc args)∧Below X X w':=hf;have HF:=Hh hf2;have hRR:(fc != 0)=R:=by rw[←hR];by_cases h:fc=0<;>simp[h]
 obtain⟨a,c,rfl,_,_⟩:=hr;clear hf hf2 hF hE hR hT;cases R with
 | false =>
   have hfc:fc=0:=by simpa using hRR
   subst hfc;clear hRR;go_enter func159,ntmps159
   go_wp2_with fail
   have hbW:Below w w (w.alloc (.cells #[m,.slice a l.length c] 53)):=br.alloc lr _;refine (HF.out _ hbW).mono ?_;rintro e w2 ⟨v2,rfl,hr2,hb2⟩;obtain⟨a2,c2,rfl,_,_⟩:=hr2;have HB:=Hh (hbW.trans (hb2.mono hbW.size));clear hbW hb2;go_wp2_with fail
   go_ret;exact⟨rfl,HB.out.alloc HB.out.size _⟩
 | true =>
   go_enter func159,ntmps159
   go_wp2_with fail
   have hbW:Below w w (w.alloc (.cells #[m,.slice a l.length c] 53)):=br.alloc lr _;refine (HF.out _ hbW).mono ?_;rintro e w2 ⟨v2,rfl,hr2,hb2⟩;obtain⟨a2,c2,rfl,_,_⟩:=hr2;have HB:=Hh (hbW.trans (hb2.mono hbW.size));clear hbW hb2;go_wp2_with fail
   go_ret;exact⟨rfl,HB.out.alloc HB.out.size _⟩
theorem aNF {p:Prop} (h:p:=by
 go_enter func114,ntmps114
 go_wp2_with fail
 refine HC.out.mono ?_;rintro e w1 ⟨rfl,hb⟩;have HB:=Hh hb;clear hb;go_wp2_with fail
 go_ret;exact⟨rfl,HB.out⟩):p:=h
theorem Gz (m:List UInt8) (v:Value) (l:List Op3) (g:Nat) (w:World) (hT:TabsA w) (h1:Row w (.slice g 1 1) 1 [.string ⟨m.toArray⟩,v]) (hr:Row w v l.length (opc l)) (hl:l.length≤1000) :
 Calls prog 114 #[.slice g 1 1] w fun e w'=>e=.returned (.bool (decide ((gO (m,l)).2=0)))∧Below w w w':=by
 have hc:=tY _ 159 #[] g m v w h1 (enters_of func159 kr rfl) (Cm m v l w hT hr hl _ rfl);have e:decide ((gO (m,l)).2=0)=!decide ((gO (m,l)).2≠0):=by by_cases h:(gO (m,l)).2=0<;>simp[h]
 rw[e];obtain⟨R,hR⟩:∃ R,decide ((gO (m,l)).2≠0)=R:=⟨_,rfl⟩;rw[hR] at hc ⊢;have HC:=Hh hc;clear hc hR e h1 hr;cases R with
 | false =>
   exact aNF
 | true =>
   exact aNF
end
end Go.Proofs.YtoigglljnklhlaaGreatDoor
