/- Joined. -/
import Derived.Test.YtoigglljnklhlaaGreatDoorD23
set_option maxHeartbeats 8000000
set_option maxRecDepth 100000
namespace Go.Proofs.YtoigglljnklhlaaGreatDoor
open Go.RowKit Go.Sort
open Go.Proofs.Tryz
theorem mF (l s:List UInt8) (w:World) (hT:TabsA w) (hl:l.length≤1000) (ha:l.all (fun b=>decide (b.toNat<128))=true) (hf:(Lib.fields l).length≤1000) :
 Calls prog 204 #[.string ⟨l.toArray⟩,.string ⟨s.toArray⟩] w fun e w'=>e=.returned (.bool (decide (s∈Lib.fields l)))∧Below w.heap.size w w':=by
 have h:=iP l w hT om ha;have hrow:Row (w.alloc (.cells ((Lib.fields l).map fun x=>Value.string ⟨x.toArray⟩).toArray 9)) (.slice (some ⟨w.heap.size,0,none⟩) (Lib.fields l).length (Lib.fields l).length) (Lib.fields l).length ((Lib.fields l).map Proofs.encStr):=by
  refine⟨_,_,rfl,Nat.le_refl _,fun _=>⟨w.heap.size,0,rfl,by rw[World.size_alloc];omega,fun j hj=>?_⟩⟩
  rw[Nat.zero_add,aC (aF w _)];simp
  try rfl
 have hc:=oQ (Lib.fields l) ⟨s.toArray⟩ _ _ hrow om;obtain⟨D,hD⟩:∃ D,decide (s∈Lib.fields l)=D:=⟨_,rfl⟩;have hD2:decide ((⟨s.toArray⟩:ByteArray).data.toList∈Lib.fields l)=D:=hD;rw[hD2] at hc;rw[hD];clear hD hD2 hrow hf ha;generalize Lib.fields l=F at *;have H:=Hh h;clear h;have HC:=Hh hc;clear hc;go_enter func204,ntmps204
 go_wp2_with fail
 refine H.out.mono ?_;rintro e w' ⟨rfl,rfl⟩;go_wp2_with fail
 refine HC.out.mono ?_;rintro e w' ⟨rfl,rfl⟩;go_wp2_with fail
 go_ret;exact⟨rfl,bl⟩
def aAp:List UInt8:=[83,85,66,32,65,78,68,32,88,79,82,32,79,82,32,67,80]
def aBn:List UInt8:=[65,68,68,32,65,68,67,32,83,66,67]
theorem pZ:Lib.fields aAp=[[83,85,66],[65,78,68],[88,79,82],[79,82],[67,80]]:=by decide +kernel
theorem qO:Lib.fields aBn=[[65,68,68],[65,68,67],[83,66,67]]:=by decide +kernel
theorem iW (m:List UInt8) (w:World) (hT:TabsA w):Calls prog 204 #[.string ⟨#[83,85,66,32,65,78,68,32,88,79,82,32,79,82,32,67,80]⟩,.string ⟨m.toArray⟩] w fun e w'=>e=.returned (.bool (decide (m∈([[83,85,66],[65,78,68],[88,79,82],[79,82],[67,80]]:List (List UInt8)))))∧Below w.heap.size w w':=by
 have h:=mF aAp m w hT dc (by decide +kernel) (by rw[pZ];decide);rw[pZ] at h;exact h
theorem kN (m:List UInt8) (w:World) (hT:TabsA w):Calls prog 204 #[.string ⟨#[65,68,68,32,65,68,67,32,83,66,67]⟩,.string ⟨m.toArray⟩] w fun e w'=>e=.returned (.bool (decide (m∈([[65,68,68],[65,68,67],[83,66,67]]:List (List UInt8)))))∧Below w.heap.size w w':=by
 have h:=mF aBn m w hT dc (by decide +kernel) (by rw[qO];decide);rw[qO] at h;exact h
structure WrAt (w:World) (b N:Nat) (m:List UInt8) (v:Value) (l:List Op3):Prop where
 blk:w.heap[b]? = some (.cells #[.string ⟨m.toArray⟩,v] 228 (0,0))
 row:WRow w N v l.length (opc l)
 ne:v.ownBlock≠some b
theorem WrAt.below {w w':World} {b N:Nat} {m:List UInt8} {v:Value} {l:List Op3} (h:WrAt w b N m v l) (hb:Below w.heap.size w w'):WrAt w' b N m v l:=⟨aB h.blk hb (aA h.blk),h.row.below hb,h.ne⟩
theorem WRow.tailO {w:World} {b g o cap:Nat} {x:Op3} {l:List Op3} (h:WRow w b (.slice (some ⟨g,o,none⟩) (l.length+1) cap) (l.length+1) (opc (x::l))):WRow w b (.slice (some ⟨g,o+3,none⟩) l.length (cap - 1)) l.length (opc l):=by
 obtain⟨a,c,hv,hn,h⟩:=h;cases hv
 refine⟨_,_,rfl,om,fun hx=>?_⟩
 obtain⟨g',o',he,h0,hg,hc,hf⟩:=h (by show[Value.int .i64 x.1,.int .i64 x.2.1,.int .i64 x.2.2]++opc l≠[];simp);cases he
 have hl:(opc (x::l)).length=3+(opc l).length:=by rw[cG,cG];simp;omega
 refine⟨g,o+3,rfl,h0,hg,fun j hj=>?_,fun j hj=>?_⟩
 · rw[Nat.add_assoc,hc (3+j) om];show ([Value.int .i64 x.1,.int .i64 x.2.1,.int .i64 x.2.2]++opc l)[3+j]? = _
   rw[List.getElem?_append_right sm];congr 1
   simp
 · rw[Nat.add_assoc];exact hf (3+j) om
theorem WrAt.put {w:World} {b N:Nat} {m:List UInt8} {v v':Value} {l l':List Op3} (h:WrAt w b N m v l) (hr:WRow w N v' l'.length (opc l')) (hne:v'.ownBlock≠some b):WrAt (w.setCell ⟨b,1,none⟩ v') b N m v' l' :=
 ⟨aG h.blk,hr.kb_ne ((Kb.refl b w).setCell 1 v') (fun _=>hne),hne⟩
theorem Qt (m:List UInt8) (g o c:Nat) (y:Op3) (b N:Nat) (w:World) (hT:TabsA w) (hW:WrAt w b N m (.slice (some ⟨g,o,none⟩) 2 c) [(1,7,0),y]) (hN:N≤b) (hNw:N≤w.heap.size) (hm:m∈([[83,85,66],[65,78,68],[88,79,82],[79,82],[67,80]]:List (List UInt8))) :
 Calls prog 162 #[.pointer (some ⟨b,0,none⟩)] w fun e w'=>(∃ u,e=.returned u)∧(∃ v',WrAt w' b N m v' [y])∧Below N w w':=by
 have hsub:=fun W (hb:Below w.heap.size w W)=>iW m W (hT.below hb);rw[decide_eq_true hm] at hsub;have HSUB:=Hh hsub;clear hsub hm;have HW:=Hh hW;have HNN:=Hh hN;have HNW:=Hh hNw;obtain⟨_,_,hv,hcc,hh⟩:=WRow.op hW.row;cases hv
 obtain⟨_,_,he,hg0,hg1,hh⟩:=hh sm;cases he
 obtain⟨k0,k1,k2,f0,f1,f2⟩:=hh 0 (1,7,0) rfl;obtain⟨t0,t1,s0,s1⟩:=aL hW.blk;have hbl:=aA hW.blk;simp only[Nat.zero_mul,Nat.add_zero] at k0 k1 k2 f0 f1 f2;dsimp only[List.length_cons,List.length_nil] at hcc;have hcc2:(2:Int)≤(c:Int):=om
 clear hh hW hT hN hNw;go_enter func162,ntmps162
 go_wp2_with fail
 refine bO kr kr ?_;repeat (go_big_quiet_step (first|exact eG (HSUB.out _ (bl))))
 refine wpQuiet_nil ?_;rintro W3 ⟨p3,hW3⟩;have hb3:Below w.heap.size w W3:=by rw[hW3];exact bl
 have hbox:W3.heap[w.heap.size]? = some (.cells #[.int .i64 1,.int .i64 7,.int .i64 0] 144 (0,0)):=by
  rw[hW3];exact aB (aF w _) (cF _ p3) (by rw[World.size_alloc];omega)
 clear hW3 p3;have HW3:=Hh (HW.out.below hb3);have HB3:=Hh hb3;have HBOX:=Hh hbox;clear hb3 hbox;obtain⟨t0',t1',s0',s1'⟩:=aL HW3.out.blk;have hbl3:=aA HW3.out.blk;go_wp2_with fail
 go_end0
 exact⟨⟨_,rfl⟩,⟨_,HW3.out.put (WRow.tailO (x:=(1,7,0)) (l:=[y]) HW3.out.row) HW3.out.ne⟩,(HB3.out.mono HNW.out).setCell (p:=⟨b,1,none⟩) HNN.out _⟩
theorem Ur {w4 w:World} {b N:Nat} {m:List UInt8} {v:Value} {l:List Op3} (h:WrAt w4 b N m v l) (hb:Below w.heap.size w w4) (hN:N≤b) (hNw:N≤w.heap.size) (x0 x1 x2:Int) (X:World) (hX:X=(w4.setCell ⟨b,1,none⟩ (.slice (some ⟨w4.heap.size,0,none⟩) 2 2)).alloc (.cells #[.int .i64 1,.int .i64 7,.int .i64 0,.int .i64 x0,.int .i64 x1,.int .i64 x2] 144)) :
 WrAt X b N m (.slice (some ⟨w4.heap.size,0,none⟩) 2 2) [(1,7,0),(x0,x1,x2)]∧Below N w X:=by
 subst hX;have hlt:=aA h.blk;have hs:=hb.size;have hnew:=aF (w4.setCell ⟨b,1,none⟩ (.slice (some ⟨w4.heap.size,0,none⟩) 2 2)) (.cells #[.int .i64 1,.int .i64 7,.int .i64 0,.int .i64 x0,.int .i64 x1,.int .i64 x2] 144);rw[setCell_size] at hnew;refine⟨⟨aE (aG h.blk),⟨_,_,rfl,Nat.le_refl _,fun _=>⟨w4.heap.size,0,rfl,om,by rw[World.size_alloc,setCell_size];omega,fun j hj=>?_,fun j hj=>?_⟩⟩,fun e=>?_⟩,((hb.mono hNw).setCell (p:=⟨b,1,none⟩) hN _).alloc (by rw[setCell_size];omega) _⟩
 · rw[Nat.zero_add,aC hnew];simp[opc]
 · rw[Nat.zero_add];exact aH hnew j
 · have:w4.heap.size=b:=Option.some.inj e
   omega
theorem aAh (m:List UInt8) (a:Option Addr) (c:Nat) (l:List Op3) (b N:Nat) (w:World) (hT:TabsA w) (hW:WrAt w b N m (.slice a l.length c) l) (hN:N≤b) (hNw:N≤w.heap.size) (hm:decide (m∈([[83,85,66],[65,78,68],[88,79,82],[79,82],[67,80]]:List (List UInt8)))=false) (hm2:decide (m∈([[65,68,68],[65,68,67],[83,66,67]]:List (List UInt8)))=false) :
 Calls prog 162 #[.pointer (some ⟨b,0,none⟩)] w fun e w'=>(∃ u,e=.returned u)∧(∃ v',WrAt w' b N m v' l)∧Below N w w':=by
 have hsub:=fun W (hb:Below w.heap.size w W)=>iW m W (hT.below hb);rw[hm] at hsub;have HSUB:=Hh hsub;clear hsub hm;have hadd:=fun W (hb:Below w.heap.size w W)=>kN m W (hT.below hb);rw[hm2] at hadd;have HADD:=Hh hadd;clear hadd hm2;have HW:=Hh hW;have HNN:=Hh hN;have HNW:=Hh hNw;obtain⟨t0,t1,s0,s1⟩:=aL hW.blk;have hbl:=aA hW.blk;clear hW hT hN hNw;go_enter func162,ntmps162
 go_wp2_with fail
 refine bO kr kr ?_;repeat (go_big_quiet_step (first|exact eG (HSUB.out _ (bl))))
 refine wpQuiet_nil ?_;rintro W3 ⟨p3,hW3⟩;have hb3:Below w.heap.size w W3:=by rw[hW3];exact bl
 have hbox:W3.heap[w.heap.size]? = some (.cells #[.int .i64 1,.int .i64 7,.int .i64 0] 144 (0,0)):=by
  rw[hW3];exact aB (aF w _) (cF _ p3) (by rw[World.size_alloc];omega)
 clear hW3 p3;have HW3:=Hh (HW.out.below hb3);have HB3:=Hh hb3;have HBOX:=Hh hbox;clear hb3 hbox;obtain⟨t0',t1',s0',s1'⟩:=aL HW3.out.blk;have hbl3:=aA HW3.out.blk;go_wp2_with fail
 (with_reducible refine (HADD.out _ HB3.out).mono ?_);rintro e w4 ⟨rfl,hb4⟩;have HW4:=Hh (HW3.out.below hb4);have HBOX4:=Hh (aB HBOX.out hb4 (aA HBOX.out));have HB4:=Hh (HB3.out.trans (hb4.mono HB3.out.size));clear hb4 t0' t1' s0' s1' hbl3;obtain⟨t0,t1,s0,s1⟩:=aL HW4.out.blk;have hbl4:=aA HW4.out.blk;go_wp2_with fail
 go_end0
 exact⟨⟨_,rfl⟩,⟨_,HW4.out⟩,HB4.out.mono HNW.out⟩
theorem aAg (m:List UInt8) (a:Option Addr) (c:Nat) (l:List Op3) (b N:Nat) (w:World) (hT:TabsA w) (hW:WrAt w b N m (.slice a l.length c) l) (hN:N≤b) (hNw:N≤w.heap.size) (hm:decide (m∈([[83,85,66],[65,78,68],[88,79,82],[79,82],[67,80]]:List (List UInt8)))=false) (hm2:decide (m∈([[65,68,68],[65,68,67],[83,66,67]]:List (List UInt8)))=true) (hlen:((l.length:Int) == 1)=false) :
 Calls prog 162 #[.pointer (some ⟨b,0,none⟩)] w fun e w'=>(∃ u,e=.returned u)∧(∃ v',WrAt w' b N m v' l)∧Below N w w':=by
 have hsub:=fun W (hb:Below w.heap.size w W)=>iW m W (hT.below hb);rw[hm] at hsub;have HSUB:=Hh hsub;clear hsub hm;have hadd:=fun W (hb:Below w.heap.size w W)=>kN m W (hT.below hb);rw[hm2] at hadd;have HADD:=Hh hadd;clear hadd hm2;have HW:=Hh hW;have HNN:=Hh hN;have HNW:=Hh hNw;obtain⟨t0,t1,s0,s1⟩:=aL hW.blk;have hbl:=aA hW.blk;clear hW hT hN hNw;go_enter func162,ntmps162
 go_wp2_with fail
 refine bO kr kr ?_;repeat (go_big_quiet_step (first|exact eG (HSUB.out _ (bl))))
 refine wpQuiet_nil ?_;rintro W3 ⟨p3,hW3⟩;have hb3:Below w.heap.size w W3:=by rw[hW3];exact bl
 have hbox:W3.heap[w.heap.size]? = some (.cells #[.int .i64 1,.int .i64 7,.int .i64 0] 144 (0,0)):=by
  rw[hW3];exact aB (aF w _) (cF _ p3) (by rw[World.size_alloc];omega)
 clear hW3 p3;have HW3:=Hh (HW.out.below hb3);have HB3:=Hh hb3;have HBOX:=Hh hbox;clear hb3 hbox;obtain⟨t0',t1',s0',s1'⟩:=aL HW3.out.blk;have hbl3:=aA HW3.out.blk;go_wp2_with fail
 (with_reducible refine (HADD.out _ HB3.out).mono ?_);rintro e w4 ⟨rfl,hb4⟩;have HW4:=Hh (HW3.out.below hb4);have HBOX4:=Hh (aB HBOX.out hb4 (aA HBOX.out));have HB4:=Hh (HB3.out.trans (hb4.mono HB3.out.size));clear hb4 t0' t1' s0' s1' hbl3;obtain⟨t0,t1,s0,s1⟩:=aL HW4.out.blk;have hbl4:=aA HW4.out.blk;go_wp2_with fail
 go_end0
 exact⟨⟨_,rfl⟩,⟨_,HW4.out⟩,HB4.out.mono HNW.out⟩
theorem aAf (m:List UInt8) (a:Option Addr) (c:Nat) (l:List Op3) (b N:Nat) (w:World) (hT:TabsA w) (hW:WrAt w b N m (.slice a l.length c) l) (hN:N≤b) (hNw:N≤w.heap.size) (hm:decide (m∈([[83,85,66],[65,78,68],[88,79,82],[79,82],[67,80]]:List (List UInt8)))=true) (hm2:decide (m∈([[65,68,68],[65,68,67],[83,66,67]]:List (List UInt8)))=false) (hlen:((l.length:Int) == 2)=false) :
 Calls prog 162 #[.pointer (some ⟨b,0,none⟩)] w fun e w'=>(∃ u,e=.returned u)∧(∃ v',WrAt w' b N m v' l)∧Below N w w':=by
 have hsub:=fun W (hb:Below w.heap.size w W)=>iW m W (hT.below hb);rw[hm] at hsub;have HSUB:=Hh hsub;clear hsub hm;have hadd:=fun W (hb:Below w.heap.size w W)=>kN m W (hT.below hb);rw[hm2] at hadd;have HADD:=Hh hadd;clear hadd hm2;have HW:=Hh hW;have HNN:=Hh hN;have HNW:=Hh hNw;obtain⟨t0,t1,s0,s1⟩:=aL hW.blk;have hbl:=aA hW.blk;clear hW hT hN hNw;go_enter func162,ntmps162
 go_wp2_with fail
 refine bO kr kr ?_;repeat (go_big_quiet_step (first|exact eG (HSUB.out _ (bl))))
 refine wpQuiet_nil ?_;rintro W3 ⟨p3,hW3⟩;have hb3:Below w.heap.size w W3:=by rw[hW3];exact bl
 have hbox:W3.heap[w.heap.size]? = some (.cells #[.int .i64 1,.int .i64 7,.int .i64 0] 144 (0,0)):=by
  rw[hW3];exact aB (aF w _) (cF _ p3) (by rw[World.size_alloc];omega)
 clear hW3 p3;have HW3:=Hh (HW.out.below hb3);have HB3:=Hh hb3;have HBOX:=Hh hbox;clear hb3 hbox;obtain⟨t0',t1',s0',s1'⟩:=aL HW3.out.blk;have hbl3:=aA HW3.out.blk;go_wp2_with fail
 (with_reducible refine (HADD.out _ HB3.out).mono ?_);rintro e w4 ⟨rfl,hb4⟩;have HW4:=Hh (HW3.out.below hb4);have HBOX4:=Hh (aB HBOX.out hb4 (aA HBOX.out));have HB4:=Hh (HB3.out.trans (hb4.mono HB3.out.size));clear hb4 t0' t1' s0' s1' hbl3;obtain⟨t0,t1,s0,s1⟩:=aL HW4.out.blk;have hbl4:=aA HW4.out.blk;go_wp2_with fail
 go_end0
 exact⟨⟨_,rfl⟩,⟨_,HW4.out⟩,HB4.out.mono HNW.out⟩
theorem Qu (m:List UInt8) (g o c:Nat) (x:Op3) (b N:Nat) (w:World) (hT:TabsA w) (hW:WrAt w b N m (.slice (some ⟨g,o,none⟩) 1 c) [x]) (hN:N≤b) (hNw:N≤w.heap.size) (hm:decide (m∈([[83,85,66],[65,78,68],[88,79,82],[79,82],[67,80]]:List (List UInt8)))=false) (hm2:decide (m∈([[65,68,68],[65,68,67],[83,66,67]]:List (List UInt8)))=true) :
 Calls prog 162 #[.pointer (some ⟨b,0,none⟩)] w fun e w'=>(∃ u,e=.returned u)∧(∃ v',WrAt w' b N m v' [(1,7,0),x])∧Below N w w':=by
 have hsub:=fun W (hb:Below w.heap.size w W)=>iW m W (hT.below hb);rw[hm] at hsub;have HSUB:=Hh hsub;clear hsub hm;have hadd:=fun W (hb:Below w.heap.size w W)=>kN m W (hT.below hb);rw[hm2] at hadd;have HADD:=Hh hadd;clear hadd hm2;have HW:=Hh hW;have HNN:=Hh hN;have HNW:=Hh hNw;obtain⟨t0,t1,s0,s1⟩:=aL hW.blk;have hbl:=aA hW.blk;obtain⟨_,_,hv,hcc,hh⟩:=WRow.op hW.row;cases hv
 obtain⟨_,_,he,hg0,hg1,hh⟩:=hh sm;cases he
 obtain⟨k0,k1,k2,f0,f1,f2⟩:=hh 0 x rfl;simp only[Nat.zero_mul,Nat.add_zero] at k0 k1 k2 f0 f1 f2;clear hh;clear hW hT hN hNw;go_enter func162,ntmps162
 go_wp2_with fail
 refine bO kr kr ?_;repeat (go_big_quiet_step (first|exact eG (HSUB.out _ (bl))))
 refine wpQuiet_nil ?_;rintro W3 ⟨p3,hW3⟩;have hb3:Below w.heap.size w W3:=by rw[hW3];exact bl
 have hbox:W3.heap[w.heap.size]? = some (.cells #[.int .i64 1,.int .i64 7,.int .i64 0] 144 (0,0)):=by
  rw[hW3];exact aB (aF w _) (cF _ p3) (by rw[World.size_alloc];omega)
 clear hW3 p3;have HW3:=Hh (HW.out.below hb3);have HB3:=Hh hb3;have HBOX:=Hh hbox;clear hb3 hbox;obtain⟨t0',t1',s0',s1'⟩:=aL HW3.out.blk;have hbl3:=aA HW3.out.blk;go_wp2_with fail
 (with_reducible refine (HADD.out _ HB3.out).mono ?_);rintro e w4 ⟨rfl,hb4⟩;have HW4:=Hh (HW3.out.below hb4);have HBOX4:=Hh (aB HBOX.out hb4 (aA HBOX.out));have HB4:=Hh (HB3.out.trans (hb4.mono HB3.out.size));clear hb4 t0' t1' s0' s1' hbl3;obtain⟨t0,t1,s0,s1⟩:=aL HW4.out.blk;have hbl4:=aA HW4.out.blk;obtain⟨_,_,hv,_,hh⟩:=WRow.op HW4.out.row;cases hv
 obtain⟨_,_,he,hg2,hg3,hh⟩:=hh sm;cases he
 obtain⟨q0,q1,q2,_,_,_⟩:=hh 0 x rfl;simp only[Nat.zero_mul,Nat.add_zero] at q0 q1 q2;obtain⟨z0,z1,z2,_,_,_⟩:=bE HBOX4.out;have hlx:w.heap.size<w4.heap.size:=aA HBOX4.out;clear hh;obtain⟨B,hB⟩:∃ B,w.heap.size=B:=⟨_,rfl⟩;obtain⟨x0,x1,x2⟩:=x;dsimp only at q0 q1 q2;rw[hB] at z0 z1 z2 hlx ⊢;go_wp2_with fail
 go_region
 all_goals
  obtain⟨hwr,hbe⟩:=Ur HW4.out HB4.out HNN.out HNW.out x0 x1 x2 _ rfl;have HWR:=Hh hwr;have HBE:=Hh hbe;clear hwr hbe;go_wp2_with fail
  go_end0
  exact⟨⟨_,rfl⟩,⟨_,HWR.out.below ⟨rfl,rfl,rfl,Nat.le_refl _,fun _ _=>rfl⟩⟩,HBE.out.trans ⟨rfl,rfl,rfl,Nat.le_refl _,fun _ _=>rfl⟩⟩
theorem aAk (m:List UInt8) (a:Option Addr) (c:Nat) (x0 x1 x2:Int) (y:Op3) (b N:Nat) (w:World) (hT:TabsA w) (hW:WrAt w b N m (.slice a 2 c) [(x0,x1,x2),y]) (hN:N≤b) (hNw:N≤w.heap.size) (hm:decide (m∈([[83,85,66],[65,78,68],[88,79,82],[79,82],[67,80]]:List (List UInt8)))=true) (hm2:decide (m∈([[65,68,68],[65,68,67],[83,66,67]]:List (List UInt8)))=false) (hx:¬ x0=1) :
 Calls prog 162 #[.pointer (some ⟨b,0,none⟩)] w fun e w'=>(∃ u,e=.returned u)∧(∃ v',WrAt w' b N m v' [(x0,x1,x2),y])∧Below N w w':=by
 have hsub:=fun W (hb:Below w.heap.size w W)=>iW m W (hT.below hb);rw[hm] at hsub;have HSUB:=Hh hsub;clear hsub hm;have hadd:=fun W (hb:Below w.heap.size w W)=>kN m W (hT.below hb);rw[hm2] at hadd;have HADD:=Hh hadd;clear hadd hm2;have HW:=Hh hW;have HNN:=Hh hN;have HNW:=Hh hNw;obtain⟨t0,t1,s0,s1⟩:=aL hW.blk;have hbl:=aA hW.blk;obtain⟨_,_,hv,hcc,hh⟩:=WRow.op hW.row;cases hv
 obtain⟨g,o,rfl,hg0,hg1,hh⟩:=hh sm;obtain⟨k0,k1,k2,f0,f1,f2⟩:=hh 0 (x0,x1,x2) rfl;simp only[Nat.zero_mul,Nat.add_zero] at k0 k1 k2 f0 f1 f2;clear hh;clear hW hT hN hNw;go_enter func162,ntmps162
 go_wp2_with fail
 refine bO kr kr ?_;repeat (go_big_quiet_step (first|exact eG (HSUB.out _ (bl))))
 refine wpQuiet_nil ?_;rintro W3 ⟨p3,hW3⟩;have hb3:Below w.heap.size w W3:=by rw[hW3];exact bl
 have hbox:W3.heap[w.heap.size]? = some (.cells #[.int .i64 1,.int .i64 7,.int .i64 0] 144 (0,0)):=by
  rw[hW3];exact aB (aF w _) (cF _ p3) (by rw[World.size_alloc];omega)
 clear hW3 p3;have HW3:=Hh (HW.out.below hb3);have HB3:=Hh hb3;have HBOX:=Hh hbox;clear hb3 hbox;obtain⟨t0',t1',s0',s1'⟩:=aL HW3.out.blk;have hbl3:=aA HW3.out.blk;go_wp2_with fail
 (with_reducible refine (HADD.out _ HB3.out).mono ?_);rintro e w4 ⟨rfl,hb4⟩;have HW4:=Hh (HW3.out.below hb4);have HBOX4:=Hh (aB HBOX.out hb4 (aA HBOX.out));have HB4:=Hh (HB3.out.trans (hb4.mono HB3.out.size));clear hb4 t0' t1' s0' s1' hbl3;obtain⟨t0,t1,s0,s1⟩:=aL HW4.out.blk;have hbl4:=aA HW4.out.blk;go_wp2_with fail
 go_end0
 exact⟨⟨_,rfl⟩,⟨_,HW4.out⟩,HB4.out.mono HNW.out⟩
theorem aAj (m:List UInt8) (a:Option Addr) (c:Nat) (x0 x1 x2:Int) (y:Op3) (b N:Nat) (w:World) (hT:TabsA w) (hW:WrAt w b N m (.slice a 2 c) [(x0,x1,x2),y]) (hN:N≤b) (hNw:N≤w.heap.size) (hm:decide (m∈([[83,85,66],[65,78,68],[88,79,82],[79,82],[67,80]]:List (List UInt8)))=true) (hm2:decide (m∈([[65,68,68],[65,68,67],[83,66,67]]:List (List UInt8)))=false) (hx0:x0=1) (hx:¬ x1=7) :
 Calls prog 162 #[.pointer (some ⟨b,0,none⟩)] w fun e w'=>(∃ u,e=.returned u)∧(∃ v',WrAt w' b N m v' [(x0,x1,x2),y])∧Below N w w':=by
 have hsub:=fun W (hb:Below w.heap.size w W)=>iW m W (hT.below hb);rw[hm] at hsub;have HSUB:=Hh hsub;clear hsub hm;have hadd:=fun W (hb:Below w.heap.size w W)=>kN m W (hT.below hb);rw[hm2] at hadd;have HADD:=Hh hadd;clear hadd hm2;have HW:=Hh hW;have HNN:=Hh hN;have HNW:=Hh hNw;obtain⟨t0,t1,s0,s1⟩:=aL hW.blk;have hbl:=aA hW.blk;obtain⟨_,_,hv,hcc,hh⟩:=WRow.op hW.row;cases hv
 obtain⟨g,o,rfl,hg0,hg1,hh⟩:=hh sm;obtain⟨k0,k1,k2,f0,f1,f2⟩:=hh 0 (x0,x1,x2) rfl;simp only[Nat.zero_mul,Nat.add_zero] at k0 k1 k2 f0 f1 f2;clear hh;subst hx0;clear hW hT hN hNw;go_enter func162,ntmps162
 go_wp2_with fail
 refine bO kr kr ?_;repeat (go_big_quiet_step (first|exact eG (HSUB.out _ (bl))))
 refine wpQuiet_nil ?_;rintro W3 ⟨p3,hW3⟩;have hb3:Below w.heap.size w W3:=by rw[hW3];exact bl
 have hbox:W3.heap[w.heap.size]? = some (.cells #[.int .i64 1,.int .i64 7,.int .i64 0] 144 (0,0)):=by
  rw[hW3];exact aB (aF w _) (cF _ p3) (by rw[World.size_alloc];omega)
 clear hW3 p3;have HW3:=Hh (HW.out.below hb3);have HB3:=Hh hb3;have HBOX:=Hh hbox;clear hb3 hbox;obtain⟨t0',t1',s0',s1'⟩:=aL HW3.out.blk;have hbl3:=aA HW3.out.blk;go_wp2_with fail
 (with_reducible refine (HADD.out _ HB3.out).mono ?_);rintro e w4 ⟨rfl,hb4⟩;have HW4:=Hh (HW3.out.below hb4);have HBOX4:=Hh (aB HBOX.out hb4 (aA HBOX.out));have HB4:=Hh (HB3.out.trans (hb4.mono HB3.out.size));clear hb4 t0' t1' s0' s1' hbl3;obtain⟨t0,t1,s0,s1⟩:=aL HW4.out.blk;have hbl4:=aA HW4.out.blk;go_wp2_with fail
 go_end0
 exact⟨⟨_,rfl⟩,⟨_,HW4.out⟩,HB4.out.mono HNW.out⟩
theorem aAi (m:List UInt8) (a:Option Addr) (c:Nat) (x0 x1 x2:Int) (y:Op3) (b N:Nat) (w:World) (hT:TabsA w) (hW:WrAt w b N m (.slice a 2 c) [(x0,x1,x2),y]) (hN:N≤b) (hNw:N≤w.heap.size) (hm:decide (m∈([[83,85,66],[65,78,68],[88,79,82],[79,82],[67,80]]:List (List UInt8)))=true) (hm2:decide (m∈([[65,68,68],[65,68,67],[83,66,67]]:List (List UInt8)))=false) (hx0:x0=1) (hx1:x1=7) (hx:¬ x2=0) :
 Calls prog 162 #[.pointer (some ⟨b,0,none⟩)] w fun e w'=>(∃ u,e=.returned u)∧(∃ v',WrAt w' b N m v' [(x0,x1,x2),y])∧Below N w w':=by
 have hsub:=fun W (hb:Below w.heap.size w W)=>iW m W (hT.below hb);rw[hm] at hsub;have HSUB:=Hh hsub;clear hsub hm;have hadd:=fun W (hb:Below w.heap.size w W)=>kN m W (hT.below hb);rw[hm2] at hadd;have HADD:=Hh hadd;clear hadd hm2;have HW:=Hh hW;have HNN:=Hh hN;have HNW:=Hh hNw;obtain⟨t0,t1,s0,s1⟩:=aL hW.blk;have hbl:=aA hW.blk;obtain⟨_,_,hv,hcc,hh⟩:=WRow.op hW.row;cases hv
 obtain⟨g,o,rfl,hg0,hg1,hh⟩:=hh sm;obtain⟨k0,k1,k2,f0,f1,f2⟩:=hh 0 (x0,x1,x2) rfl;simp only[Nat.zero_mul,Nat.add_zero] at k0 k1 k2 f0 f1 f2;clear hh;subst hx0 hx1;clear hW hT hN hNw;go_enter func162,ntmps162
 go_wp2_with fail
 refine bO kr kr ?_;repeat (go_big_quiet_step (first|exact eG (HSUB.out _ (bl))))
 refine wpQuiet_nil ?_;rintro W3 ⟨p3,hW3⟩;have hb3:Below w.heap.size w W3:=by rw[hW3];exact bl
 have hbox:W3.heap[w.heap.size]? = some (.cells #[.int .i64 1,.int .i64 7,.int .i64 0] 144 (0,0)):=by
  rw[hW3];exact aB (aF w _) (cF _ p3) (by rw[World.size_alloc];omega)
 clear hW3 p3;have HW3:=Hh (HW.out.below hb3);have HB3:=Hh hb3;have HBOX:=Hh hbox;clear hb3 hbox;obtain⟨t0',t1',s0',s1'⟩:=aL HW3.out.blk;have hbl3:=aA HW3.out.blk;go_wp2_with fail
 (with_reducible refine (HADD.out _ HB3.out).mono ?_);rintro e w4 ⟨rfl,hb4⟩;have HW4:=Hh (HW3.out.below hb4);have HBOX4:=Hh (aB HBOX.out hb4 (aA HBOX.out));have HB4:=Hh (HB3.out.trans (hb4.mono HB3.out.size));clear hb4 t0' t1' s0' s1' hbl3;obtain⟨t0,t1,s0,s1⟩:=aL HW4.out.blk;have hbl4:=aA HW4.out.blk;go_wp2_with fail
 go_end0
 exact⟨⟨_,rfl⟩,⟨_,HW4.out⟩,HB4.out.mono HNW.out⟩
theorem Jk (m:List UInt8) (h:m∈([[83,85,66],[65,78,68],[88,79,82],[79,82],[67,80]]:List (List UInt8))):¬ m∈([[65,68,68],[65,68,67],[83,66,67]]:List (List UInt8)):=by
 simp only[List.mem_cons,List.not_mem_nil,or_false] at h ⊢;rcases h with rfl|rfl|rfl|rfl|rfl<;>decide
theorem Us (m:List UInt8) (v:Value) (l:List Op3) (b N:Nat) (w:World) (hT:TabsA w) (hW:WrAt w b N m v l) (hN:N≤b) (hNw:N≤w.heap.size) :
 Calls prog 162 #[.pointer (some ⟨b,0,none⟩)] w fun e w'=>(∃ u,e=.returned u)∧(∃ v',WrAt w' b N m v' (fU (m,l)))∧Below N w w':=by
 have hrow:=hW.row;obtain⟨a,c,rfl,_,hh⟩:=hrow.op;by_cases h1:m∈([[83,85,66],[65,78,68],[88,79,82],[79,82],[67,80]]:List (List UInt8))
 · have h2:=Jk m h1;by_cases hl:l.length=2
   · obtain⟨⟨x0,x1,x2⟩,y,rfl⟩:∃ x y,l=[x,y]:=by
      match l,hl with
      | [x,y],_=>exact⟨x,y,rfl⟩
     have hA:∀ h:(x0,x1,x2)≠((1,7,0):Op3),fU (m,[(x0,x1,x2),y])=[(x0,x1,x2),y]:=fun h=>by
      unfold fU;dsimp only;rw[if_neg (fun q=>h (Option.some.inj q.2.2)),if_neg (fun q=>h2 q.1)]
     by_cases e0:x0=1
     · by_cases e1:x1=7
       · by_cases e2:x2=0
         · subst e0 e1 e2
           have:fU (m,[(1,7,0),y])=[y]:=by unfold fU;dsimp only;rw[if_pos ⟨h1,rfl,rfl⟩];rfl
           rw[this];obtain⟨g,o,rfl,_⟩:=hh sm;exact Qt m g o c y b N w hT hW hN hNw h1
         · rw[hA (by simp[e2])];exact aAi m a c x0 x1 x2 y b N w hT hW hN hNw (decide_eq_true h1) (decide_eq_false h2) e0 e1 e2
       · rw[hA (by simp[e1])];exact aAj m a c x0 x1 x2 y b N w hT hW hN hNw (decide_eq_true h1) (decide_eq_false h2) e0 e1
     · rw[hA (by simp[e0])];exact aAk m a c x0 x1 x2 y b N w hT hW hN hNw (decide_eq_true h1) (decide_eq_false h2) e0
   · have:fU (m,l)=l:=by
      unfold fU;dsimp only;rw[if_neg (fun q=>hl q.2.1),if_neg (fun q=>h2 q.1)]
     rw[this];exact aAf m a c l b N w hT hW hN hNw (decide_eq_true h1) (decide_eq_false h2) (by rw[beq_eq_false_iff_ne];omega)
 · by_cases h2:m∈([[65,68,68],[65,68,67],[83,66,67]]:List (List UInt8))
   · by_cases hl:l.length=1
     · obtain⟨x,rfl⟩:∃ x,l=[x]:=List.length_eq_one_iff.1 hl
       have:fU (m,[x])=[(1,7,0),x]:=by unfold fU;dsimp only;rw[if_neg (fun q=>h1 q.1),if_pos ⟨h2,rfl⟩]
       rw[this];obtain⟨g,o,rfl,_⟩:=hh sm;exact Qu m g o c x b N w hT hW hN hNw (decide_eq_false h1) (decide_eq_true h2)
     · have:fU (m,l)=l:=by
        unfold fU;dsimp only;rw[if_neg (fun q=>h1 q.1),if_neg (fun q=>hl q.2)]
       rw[this];exact aAg m a c l b N w hT hW hN hNw (decide_eq_false h1) (decide_eq_true h2) (by rw[beq_eq_false_iff_ne];omega)
   · have:fU (m,l)=l:=by
      unfold fU;dsimp only;rw[if_neg (fun q=>h1 q.1),if_neg (fun q=>h2 q.1)]
     rw[this];exact aAh m a c l b N w hT hW hN hNw (decide_eq_false h1) (decide_eq_false h2)
def aAQ:List UInt8:=[66,73,84,32,82,69,83,32,83,69,84,32,73,77,32,82,83,84,32,79,85,84]
def jpT:List UInt8:=[74,80,32,67,65,76,76]
theorem qN:Lib.fields aAQ=[[66,73,84],[82,69,83],[83,69,84],[73,77],[82,83,84],[79,85,84]]:=by decide +kernel
theorem sP:Lib.fields jpT=[[74,80],[67,65,76,76]]:=by decide +kernel
theorem Qm (m:List UInt8) (w:World) (hT:TabsA w):Calls prog 204 #[.string ⟨#[66,73,84,32,82,69,83,32,83,69,84,32,73,77,32,82,83,84,32,79,85,84]⟩,.string ⟨m.toArray⟩] w fun e w'=>e=.returned (.bool (decide (m∈([[66,73,84],[82,69,83],[83,69,84],[73,77],[82,83,84],[79,85,84]]:List (List UInt8)))))∧Below w.heap.size w w':=by
 have h:=mF aAQ m w hT dc (by decide +kernel) (by rw[qN];decide);rw[qN] at h;exact h
theorem Sy (m:List UInt8) (w:World) (hT:TabsA w):Calls prog 204 #[.string ⟨#[74,80,32,67,65,76,76]⟩,.string ⟨m.toArray⟩] w fun e w'=>e=.returned (.bool (decide (m∈([[74,80],[67,65,76,76]]:List (List UInt8)))))∧Below w.heap.size w w':=by
 have h:=mF jpT m w hT dc (by decide +kernel) (by rw[sP];decide);rw[sP] at h;exact h
theorem oZ (m:List UInt8) (v:Value) (l:List Op3) (w:World) (hT:TabsA w) (hr:Row w v l.length (opc l)) (hl:l.length≤1000) :
 Calls prog 207 #[eU m v] w fun e w'=>e=.returned (.int .i64 (cY (m,l)))∧Below w.heap.size w w':=by
 have hbit:=fun X (hb:Below w.heap.size w X)=>Qm m X (hT.below hb);have hjp:=fun X (hb:Below w.heap.size w X)=>Sy m X (hT.below hb);have HR:=Hh hr;obtain⟨a,c,rfl,hc,_⟩:=hr;by_cases h1:m∈([[66,73,84],[82,69,83],[83,69,84],[73,77],[82,83,84],[79,85,84]]:List (List UInt8))
 · have hw:cY (m,l)=0:=by unfold cY;rw[if_pos h1]
   rw[hw];rw[decide_eq_true h1] at hbit;have HBIT:=Hh hbit;clear hbit hjp h1 hw;go_enter func207,ntmps207
   go_wp2_with fail
   refine (HBIT.out _ (bl)).mono ?_;rintro e w1 ⟨rfl,hb1⟩;obtain⟨p1,rfl⟩:=aO hb1;clear hb1;go_wp2_with fail
   go_ret;exact⟨rfl,bl⟩
 · rw[decide_eq_false h1] at hbit;have HBIT:=Hh hbit;clear hbit;by_cases h2:m∈([[74,80],[67,65,76,76]]:List (List UInt8))
   · have hw:cY (m,l)=2:=by unfold cY;rw[if_neg h1,if_pos (.inl h2)]
     rw[hw];rw[decide_eq_true h2] at hjp;have HJP:=Hh hjp;clear hjp h1 h2 hw;go_enter func207,ntmps207
     go_wp2_with fail
     refine (HBIT.out _ (bl)).mono ?_;rintro e w1 ⟨rfl,hb1⟩;obtain⟨p1,rfl⟩:=aO hb1;clear hb1;go_wp2_with fail
     refine (HJP.out _ (bl)).mono ?_;rintro e w2 ⟨rfl,hb2⟩;obtain⟨p2,rfl⟩:=aO hb2;clear hb2;go_wp2_with fail
     go_ret;exact⟨rfl,bl⟩
   · rw[decide_eq_false h2] at hjp;have HJP:=Hh hjp;clear hjp;have hw:cY (m,l)=if m=[76,68]∧l.head?.map (·.1)=some 3 then 2 else 1:=by
      unfold cY;rw[if_neg h1];by_cases h3:m=[76,68]∧l.head?.map (·.1)=some 3
      · rw[if_pos (.inr h3),if_pos h3]
      · rw[if_neg (fun h=>h.elim h2 h3),if_neg h3]
     rw[hw];clear h1 h2 hw;by_cases h3:m=[76,68]
     · have hm2:(m == [76,68])=true:=by rw[h3];rfl
       cases l with
       | nil =>
         rw[if_neg sm];have HM:=Hh h3;clear h3;go_enter func207,ntmps207
         go_wp2_with fail
         refine (HBIT.out _ (bl)).mono ?_;rintro e w1 ⟨rfl,hb1⟩;obtain⟨p1,rfl⟩:=aO hb1;clear hb1;go_wp2_with fail
         refine (HJP.out _ (bl)).mono ?_;rintro e w2 ⟨rfl,hb2⟩;obtain⟨p2,rfl⟩:=aO hb2;clear hb2;go_wp2_with fail
         go_ret;exact⟨rfl,bl⟩
       | cons x t =>
         obtain⟨_,_,hv,_,hh⟩:=HR.out.op;cases hv
         obtain⟨g,o,rfl,hg,hh⟩:=hh sm;obtain⟨k0,k1,k2⟩:=hh 0 x rfl;simp only[Nat.zero_mul,Nat.add_zero] at k0;have hi1:(0:Int)<((x::t).length:Int):=by simp only[List.length_cons];omega
         have hcc:((x::t).length:Int)≤(c:Int):=om
         have hxx:(if m=[76,68]∧(x::t).head?.map (·.1)=some 3 then (2:Nat) else 1)=if x.1=3 then 2 else 1:=by simp[h3]
         rw[hxx];obtain⟨n,hn⟩:∃ n,(x::t).length=n:=⟨_,rfl⟩;rw[hn] at hi1 hcc hc ⊢;have HM:=Hh h3;clear hh HR k1 k2 hxx h3 hn;obtain⟨x0,x1,x2⟩:=x;dsimp only at k0 ⊢;by_cases hx:x0=3
         · subst hx;rw[if_pos rfl];go_enter func207,ntmps207
           go_wp2_with fail
           refine (HBIT.out _ (bl)).mono ?_;rintro e w1 ⟨rfl,hb1⟩;have hx1:=aW hb1;have hbw1:Below w.heap.size w w1:=aK hb1;obtain⟨z0,z1,_,_⟩:=aL hx1;clear hb1;go_wp2_with fail
           refine (HJP.out _ hbw1).mono ?_;rintro e w2 ⟨rfl,hb2⟩;obtain⟨z0',z1',_,_⟩:=aL (aB hx1 hb2 (aA hx1));have HB2:=Hh (hbw1.trans (hb2.mono hbw1.size));have kz:w2.cell? ⟨g,o,none⟩=some (.int .i64 _):=(HB2.out.cell (p:=⟨g,o,none⟩) hg).trans k0;clear hb2 z0 z1 hx1 hbw1 k0;go_wp2_with fail
           go_ret;exact⟨rfl,HB2.out⟩
         · rw[if_neg hx];have hx3:(x0 == 3)=false:=by simpa using hx
           go_enter func207,ntmps207
           go_wp2_with fail
           refine (HBIT.out _ (bl)).mono ?_;rintro e w1 ⟨rfl,hb1⟩;have hx1:=aW hb1;have hbw1:Below w.heap.size w w1:=aK hb1;obtain⟨z0,z1,_,_⟩:=aL hx1;clear hb1;go_wp2_with fail
           refine (HJP.out _ hbw1).mono ?_;rintro e w2 ⟨rfl,hb2⟩;obtain⟨z0',z1',_,_⟩:=aL (aB hx1 hb2 (aA hx1));have HB2:=Hh (hbw1.trans (hb2.mono hbw1.size));have kz:w2.cell? ⟨g,o,none⟩=some (.int .i64 _):=(HB2.out.cell (p:=⟨g,o,none⟩) hg).trans k0;clear hb2 z0 z1 hx1 hbw1 k0;go_wp2_with fail
           go_ret;exact⟨rfl,HB2.out⟩
     · rw[if_neg (fun h=>h3 h.1)];have hm2:(m == [76,68])=false:=by simpa using h3
       have HM:=Hh h3;clear h3;go_enter func207,ntmps207
       go_wp2_with fail
       refine (HBIT.out _ (bl)).mono ?_;rintro e w1 ⟨rfl,hb1⟩;obtain⟨p1,rfl⟩:=aO hb1;clear hb1;go_wp2_with fail
       refine (HJP.out _ (bl)).mono ?_;rintro e w2 ⟨rfl,hb2⟩;obtain⟨p2,rfl⟩:=aO hb2;clear hb2;go_wp2_with fail
       go_ret;exact⟨rfl,bl⟩
theorem xK (i:aY):cY i=0∨cY i=1∨cY i=2:=by
 unfold cY;split
 · exact .inl rfl
 · split
   · exact .inr (.inr rfl)
   · exact .inr (.inl rfl)
def dB (s h:Int) (o:Op3):Op3:=if o.1=6∧o.2.2<0∧h≤o.2.2 then (o.1,o.2.1,o.2.2+s) else o
theorem Xh:sC 0=dB 1 0:=by
 funext o
 unfold sC dB;rw[if_neg (by rintro⟨_,_,h|h⟩<;>exact absurd h.1 dc),if_neg (by rintro⟨_,h1,h2⟩;omega)]
theorem Xg:sC 1=dB 256 (-128):=by
 funext o
 unfold sC dB;by_cases h:o.1=6∧o.2.2<0∧-128≤o.2.2
 · rw[if_pos ⟨h.1,h.2.1,.inl ⟨rfl,h.2.2⟩⟩,if_pos h];rfl
 · rw[if_neg (by rintro⟨h1,h2,h3|h3⟩;exact h ⟨h1,h2,h3.2⟩;exact absurd h3.1 dc),if_neg h]
theorem Xf:sC 2=dB 65536 (-32768):=by
 funext o
 unfold sC dB;by_cases h:o.1=6∧o.2.2<0∧-32768≤o.2.2
 · rw[if_pos ⟨h.1,h.2.1,.inr ⟨rfl,h.2.2⟩⟩,if_pos h];rfl
 · rw[if_neg (by rintro⟨h1,h2,h3|h3⟩;exact absurd h3.1 dc;exact h ⟨h1,h2,h3.2⟩),if_neg h]
theorem WrAt.rowKb {w w':World} {b N:Nat} {m:List UInt8} {v:Value} {l l':List Op3} (h:WrAt w b N m v l) (hb:w'.heap[b]? = w.heap[b]?) (hr:WRow w' N v l'.length (opc l')):WrAt w' b N m v l':=⟨hb.trans h.blk,hr,h.ne⟩
theorem Xp (m:List UInt8) (v:Value) (l:List Op3) (b N:Nat) (w:World) (hT:TabsA w) (hW:WrAt w b N m v l) (hN:N≤b) (hNw:N≤w.heap.size) (hl:l.length≤1000) (hk:cY (m,l)=0) :
 Calls prog 164 #[.pointer (some ⟨b,0,none⟩)] w fun e w'=>(∃ u,e=.returned u)∧WrAt w' b N m v (l.map (dB 1 (0)))∧Below N w w':=by
 have hwd:=fun W (hb:Below w.heap.size w W)=>oZ m v l W (hT.below hb) (hW.row.row.below hb) hl;rw[hk] at hwd;have HWD:=Hh hwd;clear hwd hk;have HW:=Hh hW;have HNN:=Hh hN;have HNW:=Hh hNw;obtain⟨t0,t1,s0,s1⟩:=aL hW.blk;have hbl:=aA hW.blk;obtain⟨a,c,rfl,hcc,_⟩:=WRow.op hW.row;clear hW hT hN hNw;go_enter func164,ntmps164
 go_wp2_with fail
 (with_reducible refine (HWD.out _ br).mono ?_);rintro e w1 ⟨rfl,hb1⟩;have HW1:=Hh (HW.out.below hb1);have HB1:=Hh (hb1.mono HNW.out);clear t0 t1 s0 s1 hb1;obtain⟨t0,t1,s0,s1⟩:=aL HW1.out.blk;have hbl1:=aA HW1.out.blk;go_wp2_with fail
 go_loopw [18] (fun i wr=>∃ j:Nat,j≤l.length∧i=.int .i64 j∧Hid (WrAt wr b N m (.slice a l.length c) (lkL (dB 1 (0)) l j))∧Hid (Below N w wr)) (fun i _=>l.length - (intOf i).toNat)
 case atStart=>exact⟨0,Nat.zero_le _,rfl,Hh (by unfold lkL;simpa using HW1.out),HB1⟩
 case round =>
  obtain⟨j,hj,rfl,HW2,HB2⟩:=hrel;by_cases hlt:j<l.length
  · obtain⟨x,hx⟩:∃ x,l[j]? = some x:=⟨_,List.getElem?_eq_getElem hlt⟩;have hrow:=HW2.out.row;obtain⟨_,_,hv,_,hh⟩:=WRow.op hrow;have hlen:=bY (dB 1 (0)) l j;rw[hlen] at hv;cases hv
    obtain⟨g,o,rfl,hg0,hg1,hh⟩:=hh (by intro e;rw[e] at hlen;simp at hlen;omega);obtain⟨k0,k1,k2,f0,f1,f2⟩:=hh j x (nF hx);obtain⟨t0,t1,s0,s1⟩:=aL HW2.out.blk;have hbl2:=aA HW2.out.blk;have HX:=Hh hx;have hi0:(0:Int)≤(j:Int):=om
    have hi1:(j:Int)<(l.length:Int):=om
    clear hh hrow hlen hx;obtain⟨x0,x1,x2⟩:=x;dsimp only at k0 k1 k2;by_cases h6:x0=6
    · by_cases hn:x2<0
      · by_cases hm:0≤x2
        · exact absurd hn om
        · have HFX:(dB 1 (0)) (x0,x1,x2)=(x0,x1,x2):=if_neg (fun q=>hm q.2.2);have HFX:=HFX;subst h6;go_wp2_with fail
          go_roundw
          case rel=>exact⟨j+1,om,by go_num,Hh (by rw[←cJ HX.out HFX];exact HW2.out.below (bl)),Hh (HB2.out.alloc (by have:=HB2.out.size;have:=HNW.out;omega) _)⟩
          case measure=>simp[intOf];omega
      · have HFX:(dB 1 (0)) (x0,x1,x2)=(x0,x1,x2):=if_neg (fun q=>hn q.2.1);subst h6;go_wp2_with fail
        go_roundw
        case rel=>exact⟨j+1,om,by go_num,Hh (by rw[←cJ HX.out HFX];exact HW2.out.below (bl)),Hh (HB2.out.alloc (by have:=HB2.out.size;have:=HNW.out;omega) _)⟩
        case measure=>simp[intOf];omega
    · have HFX:(dB 1 (0)) (x0,x1,x2)=(x0,x1,x2):=if_neg (fun q=>h6 q.1);have h6b:(x0 == 6)=false:=by simpa using h6
      go_wp2_with fail
      go_roundw
      case rel=>exact⟨j+1,om,by go_num,Hh (by rw[←cJ HX.out HFX];exact HW2.out.below (bl)),Hh (HB2.out.alloc (by have:=HB2.out.size;have:=HNW.out;omega) _)⟩
      case measure=>simp[intOf];omega
  · obtain rfl:j=l.length:=om
    have hw3:=HW2.out;rw[show lkL (dB 1 (0)) l l.length=l.map (dB 1 (0)) by unfold lkL;simp] at hw3
    have HW3:=Hh hw3;clear hw3;obtain⟨t0,t1,s0,s1⟩:=aL HW3.out.blk;go_wp2_with fail
    go_end0
    exact⟨⟨_,rfl⟩,HW3.out,HB2.out⟩
theorem Xo (m:List UInt8) (v:Value) (l:List Op3) (b N:Nat) (w:World) (hT:TabsA w) (hW:WrAt w b N m v l) (hN:N≤b) (hNw:N≤w.heap.size) (hl:l.length≤1000) (hk:cY (m,l)=1) :
 Calls prog 164 #[.pointer (some ⟨b,0,none⟩)] w fun e w'=>(∃ u,e=.returned u)∧WrAt w' b N m v (l.map (dB 256 (-128)))∧Below N w w':=by
 have hwd:=fun W (hb:Below w.heap.size w W)=>oZ m v l W (hT.below hb) (hW.row.row.below hb) hl;rw[hk] at hwd;have HWD:=Hh hwd;clear hwd hk;have HW:=Hh hW;have HNN:=Hh hN;have HNW:=Hh hNw;obtain⟨t0,t1,s0,s1⟩:=aL hW.blk;have hbl:=aA hW.blk;obtain⟨a,c,rfl,hcc,_⟩:=WRow.op hW.row;clear hW hT hN hNw;go_enter func164,ntmps164
 go_wp2_with fail
 (with_reducible refine (HWD.out _ br).mono ?_);rintro e w1 ⟨rfl,hb1⟩;have HW1:=Hh (HW.out.below hb1);have HB1:=Hh (hb1.mono HNW.out);clear t0 t1 s0 s1 hb1;obtain⟨t0,t1,s0,s1⟩:=aL HW1.out.blk;have hbl1:=aA HW1.out.blk;go_wp2_with fail
 go_loopw [18] (fun i wr=>∃ j:Nat,j≤l.length∧i=.int .i64 j∧Hid (WrAt wr b N m (.slice a l.length c) (lkL (dB 256 (-128)) l j))∧Hid (Below N w wr)) (fun i _=>l.length - (intOf i).toNat)
 case atStart=>exact⟨0,Nat.zero_le _,rfl,Hh (by unfold lkL;simpa using HW1.out),HB1⟩
 case round =>
  obtain⟨j,hj,rfl,HW2,HB2⟩:=hrel;by_cases hlt:j<l.length
  · obtain⟨x,hx⟩:∃ x,l[j]? = some x:=⟨_,List.getElem?_eq_getElem hlt⟩;have hrow:=HW2.out.row;obtain⟨_,_,hv,_,hh⟩:=WRow.op hrow;have hlen:=bY (dB 256 (-128)) l j;rw[hlen] at hv;cases hv
    obtain⟨g,o,rfl,hg0,hg1,hh⟩:=hh (by intro e;rw[e] at hlen;simp at hlen;omega);obtain⟨k0,k1,k2,f0,f1,f2⟩:=hh j x (nF hx);obtain⟨t0,t1,s0,s1⟩:=aL HW2.out.blk;have hbl2:=aA HW2.out.blk;have HX:=Hh hx;have hi0:(0:Int)≤(j:Int):=om
    have hi1:(j:Int)<(l.length:Int):=om
    clear hh hrow hlen hx;obtain⟨x0,x1,x2⟩:=x;dsimp only at k0 k1 k2;by_cases h6:x0=6
    · by_cases hn:x2<0
      · by_cases hm:-128≤x2
        · subst h6;have hfx:(dB 256 (-128)) (6,x1,x2)=(6,x1,x2+256):=if_pos ⟨rfl,hn,hm⟩;have hset:=kG HX.out hfx;have hwr:∀ X:World,Below wr.heap.size wr X→WrAt (X.setCell ⟨g,o+j*3+2,none⟩ (.int .i64 (x2+256))) b N m (.slice (some ⟨g,o,none⟩) l.length c) (lkL (dB 256 (-128)) l (j+1)):=fun X hb=>by
           have h1:=HW2.out.below hb;have hr:=h1.row;have hlen:=bY (dB 256 (-128)) l j;rw[hlen] at hr;have hr2:WRow X N (.slice (some ⟨g,o,none⟩) (lkL (dB 256 (-128)) l j).length c) (lkL (dB 256 (-128)) l j).length (opc (lkL (dB 256 (-128)) l j)):=by rw[hlen];exact hr
           have hs:=WRow.setN (m:=x2+256) hr2 (nF HX.out);rw[hset,hlen] at hs;exact h1.rowKb (aD h1.blk (fun e=>h1.ne (by rw[e];rfl)) |>.trans h1.blk.symm) (by rw[bY];exact hs)
          have HWR:=Hh hwr;clear hwr hset hfx;go_wp2_with fail
          go_roundw
          case rel=>exact⟨j+1,om,by go_num,Hh (by first|exact HWR.out _ (bl)|exact (HWR.out wr br).below (br.alloc lr _)),Hh ((HB2.out.setCell (p:=⟨g,o+j*3+2,none⟩) hg0 _).alloc (by rw[setCell_size];have:=HB2.out.size;have:=HNW.out;omega) _)⟩
          case measure=>simp[intOf];omega
        · have HFX:(dB 256 (-128)) (x0,x1,x2)=(x0,x1,x2):=if_neg (fun q=>hm q.2.2);have HFX:=HFX;subst h6;go_wp2_with fail
          go_roundw
          case rel=>exact⟨j+1,om,by go_num,Hh (by rw[←cJ HX.out HFX];exact HW2.out.below (bl)),Hh (HB2.out.alloc (by have:=HB2.out.size;have:=HNW.out;omega) _)⟩
          case measure=>simp[intOf];omega
      · have HFX:(dB 256 (-128)) (x0,x1,x2)=(x0,x1,x2):=if_neg (fun q=>hn q.2.1);subst h6;go_wp2_with fail
        go_roundw
        case rel=>exact⟨j+1,om,by go_num,Hh (by rw[←cJ HX.out HFX];exact HW2.out.below (bl)),Hh (HB2.out.alloc (by have:=HB2.out.size;have:=HNW.out;omega) _)⟩
        case measure=>simp[intOf];omega
    · have HFX:(dB 256 (-128)) (x0,x1,x2)=(x0,x1,x2):=if_neg (fun q=>h6 q.1);have h6b:(x0 == 6)=false:=by simpa using h6
      go_wp2_with fail
      go_roundw
      case rel=>exact⟨j+1,om,by go_num,Hh (by rw[←cJ HX.out HFX];exact HW2.out.below (bl)),Hh (HB2.out.alloc (by have:=HB2.out.size;have:=HNW.out;omega) _)⟩
      case measure=>simp[intOf];omega
  · obtain rfl:j=l.length:=om
    have hw3:=HW2.out;rw[show lkL (dB 256 (-128)) l l.length=l.map (dB 256 (-128)) by unfold lkL;simp] at hw3
    have HW3:=Hh hw3;clear hw3;obtain⟨t0,t1,s0,s1⟩:=aL HW3.out.blk;go_wp2_with fail
    go_end0
    exact⟨⟨_,rfl⟩,HW3.out,HB2.out⟩
theorem Xn (m:List UInt8) (v:Value) (l:List Op3) (b N:Nat) (w:World) (hT:TabsA w) (hW:WrAt w b N m v l) (hN:N≤b) (hNw:N≤w.heap.size) (hl:l.length≤1000) (hk:cY (m,l)=2) :
 Calls prog 164 #[.pointer (some ⟨b,0,none⟩)] w fun e w'=>(∃ u,e=.returned u)∧WrAt w' b N m v (l.map (dB 65536 (-32768)))∧Below N w w':=by
 have hwd:=fun W (hb:Below w.heap.size w W)=>oZ m v l W (hT.below hb) (hW.row.row.below hb) hl;rw[hk] at hwd;have HWD:=Hh hwd;clear hwd hk;have HW:=Hh hW;have HNN:=Hh hN;have HNW:=Hh hNw;obtain⟨t0,t1,s0,s1⟩:=aL hW.blk;have hbl:=aA hW.blk;obtain⟨a,c,rfl,hcc,_⟩:=WRow.op hW.row;clear hW hT hN hNw;go_enter func164,ntmps164
 go_wp2_with fail
 (with_reducible refine (HWD.out _ br).mono ?_);rintro e w1 ⟨rfl,hb1⟩;have HW1:=Hh (HW.out.below hb1);have HB1:=Hh (hb1.mono HNW.out);clear t0 t1 s0 s1 hb1;obtain⟨t0,t1,s0,s1⟩:=aL HW1.out.blk;have hbl1:=aA HW1.out.blk;go_wp2_with fail
 go_loopw [18] (fun i wr=>∃ j:Nat,j≤l.length∧i=.int .i64 j∧Hid (WrAt wr b N m (.slice a l.length c) (lkL (dB 65536 (-32768)) l j))∧Hid (Below N w wr)) (fun i _=>l.length - (intOf i).toNat)
 case atStart=>exact⟨0,Nat.zero_le _,rfl,Hh (by unfold lkL;simpa using HW1.out),HB1⟩
 case round =>
  obtain⟨j,hj,rfl,HW2,HB2⟩:=hrel;by_cases hlt:j<l.length
  · obtain⟨x,hx⟩:∃ x,l[j]? = some x:=⟨_,List.getElem?_eq_getElem hlt⟩;have hrow:=HW2.out.row;obtain⟨_,_,hv,_,hh⟩:=WRow.op hrow;have hlen:=bY (dB 65536 (-32768)) l j;rw[hlen] at hv;cases hv
    obtain⟨g,o,rfl,hg0,hg1,hh⟩:=hh (by intro e;rw[e] at hlen;simp at hlen;omega);obtain⟨k0,k1,k2,f0,f1,f2⟩:=hh j x (nF hx);obtain⟨t0,t1,s0,s1⟩:=aL HW2.out.blk;have hbl2:=aA HW2.out.blk;have HX:=Hh hx;have hi0:(0:Int)≤(j:Int):=om
    have hi1:(j:Int)<(l.length:Int):=om
    clear hh hrow hlen hx;obtain⟨x0,x1,x2⟩:=x;dsimp only at k0 k1 k2;by_cases h6:x0=6
    · by_cases hn:x2<0
      · by_cases hm:-32768≤x2
        · subst h6;have hfx:(dB 65536 (-32768)) (6,x1,x2)=(6,x1,x2+65536):=if_pos ⟨rfl,hn,hm⟩;have hset:=kG HX.out hfx;have hwr:∀ X:World,Below wr.heap.size wr X→WrAt (X.setCell ⟨g,o+j*3+2,none⟩ (.int .i64 (x2+65536))) b N m (.slice (some ⟨g,o,none⟩) l.length c) (lkL (dB 65536 (-32768)) l (j+1)):=fun X hb=>by
           have h1:=HW2.out.below hb;have hr:=h1.row;have hlen:=bY (dB 65536 (-32768)) l j;rw[hlen] at hr;have hr2:WRow X N (.slice (some ⟨g,o,none⟩) (lkL (dB 65536 (-32768)) l j).length c) (lkL (dB 65536 (-32768)) l j).length (opc (lkL (dB 65536 (-32768)) l j)):=by rw[hlen];exact hr
           have hs:=WRow.setN (m:=x2+65536) hr2 (nF HX.out);rw[hset,hlen] at hs;exact h1.rowKb (aD h1.blk (fun e=>h1.ne (by rw[e];rfl)) |>.trans h1.blk.symm) (by rw[bY];exact hs)
          have HWR:=Hh hwr;clear hwr hset hfx;go_wp2_with fail
          go_roundw
          case rel=>exact⟨j+1,om,by go_num,Hh (by first|exact HWR.out _ (bl)|exact (HWR.out wr br).below (br.alloc lr _)),Hh ((HB2.out.setCell (p:=⟨g,o+j*3+2,none⟩) hg0 _).alloc (by rw[setCell_size];have:=HB2.out.size;have:=HNW.out;omega) _)⟩
          case measure=>simp[intOf];omega
        · have HFX:(dB 65536 (-32768)) (x0,x1,x2)=(x0,x1,x2):=if_neg (fun q=>hm q.2.2);have HFX:=HFX;subst h6;go_wp2_with fail
          go_roundw
          case rel=>exact⟨j+1,om,by go_num,Hh (by rw[←cJ HX.out HFX];exact HW2.out.below (bl)),Hh (HB2.out.alloc (by have:=HB2.out.size;have:=HNW.out;omega) _)⟩
          case measure=>simp[intOf];omega
      · have HFX:(dB 65536 (-32768)) (x0,x1,x2)=(x0,x1,x2):=if_neg (fun q=>hn q.2.1);subst h6;go_wp2_with fail
        go_roundw
        case rel=>exact⟨j+1,om,by go_num,Hh (by rw[←cJ HX.out HFX];exact HW2.out.below (bl)),Hh (HB2.out.alloc (by have:=HB2.out.size;have:=HNW.out;omega) _)⟩
        case measure=>simp[intOf];omega
    · have HFX:(dB 65536 (-32768)) (x0,x1,x2)=(x0,x1,x2):=if_neg (fun q=>h6 q.1);have h6b:(x0 == 6)=false:=by simpa using h6
      go_wp2_with fail
      go_roundw
      case rel=>exact⟨j+1,om,by go_num,Hh (by rw[←cJ HX.out HFX];exact HW2.out.below (bl)),Hh (HB2.out.alloc (by have:=HB2.out.size;have:=HNW.out;omega) _)⟩
      case measure=>simp[intOf];omega
  · obtain rfl:j=l.length:=om
    have hw3:=HW2.out;rw[show lkL (dB 65536 (-32768)) l l.length=l.map (dB 65536 (-32768)) by unfold lkL;simp] at hw3
    have HW3:=Hh hw3;clear hw3;obtain⟨t0,t1,s0,s1⟩:=aL HW3.out.blk;go_wp2_with fail
    go_end0
    exact⟨⟨_,rfl⟩,HW3.out,HB2.out⟩
theorem Nc (m:List UInt8) (v:Value) (l:List Op3) (b N:Nat) (w:World) (hT:TabsA w) (hW:WrAt w b N m v l) (hN:N≤b) (hNw:N≤w.heap.size) (hl:l.length≤1000) :
 Calls prog 164 #[.pointer (some ⟨b,0,none⟩)] w fun e w'=>(∃ u,e=.returned u)∧WrAt w' b N m v (l.map (sC (cY (m,l))))∧Below N w w':=by
 rcases xK (m,l) with h|h|h
 · rw[h,Xh];exact Xp m v l b N w hT hW hN hNw hl h
 · rw[h,Xg];exact Xo m v l b N w hT hW hN hNw hl h
 · rw[h,Xf];exact Xn m v l b N w hT hW hN hNw hl h
theorem Kb.drewK {b:Nat} {u w:World} (h:Kb b u w):Kb b u w.drew:=⟨h.os,h.tape,h.output,h.size,h.block⟩
theorem Rr {w:World} {g o c N:Nat} {x0 x1 x2 y0 y1 y2:Int} (hr:WRow w N (.slice (some ⟨g,o,none⟩) 2 c) 2 (opc [(x0,x1,x2),(y0,y1,y2)])) (X:World)
 (hX:X=(((((w.setCell ⟨g,o,none⟩ (.int .i64 y0)).setCell ⟨g,o+1,none⟩ (.int .i64 y1)).setCell ⟨g,o+2,none⟩ (.int .i64 y2)).setCell ⟨g,o+3,none⟩ (.int .i64 x0)).setCell ⟨g,o+3+1,none⟩ (.int .i64 x1)).setCell ⟨g,o+3+2,none⟩ (.int .i64 x2)) :
 WRow X N (.slice (some ⟨g,o,none⟩) 2 c) 2 (opc [(y0,y1,y2),(x0,x1,x2)])∧Kb g w X:=by
 subst hX;refine⟨?_,((((((Kb.refl g w).setCell o _).setCell (o+1) _).setCell (o+2) _).setCell (o+3) _).setCell (o+3+1) _).setCell (o+3+2) _⟩;have h0:=hr.set (i:=0) (u:=.int .i64 y0) (by simp[opc]);have h1:=h0.set (i:=1) (u:=.int .i64 y1) (by simp[opc]);have h2:=h1.set (i:=2) (u:=.int .i64 y2) (by simp[opc]);have h3:=h2.set (i:=3) (u:=.int .i64 x0) (by simp[opc]);have h4:=h3.set (i:=4) (u:=.int .i64 x1) (by simp[opc]);have h5:=h4.set (i:=5) (u:=.int .i64 x2) (by simp[opc]);simp only[opc,List.flatMap_cons,List.flatMap_nil,List.cons_append,List.nil_append,List.append_nil,List.set_cons_zero,List.set_cons_succ,Nat.add_zero] at h5 ⊢;exact h5
theorem Rq (g o c:Nat) (x0 x1 x2 y0 y1 y2:Int) (N:Nat) (w:World) (hr:WRow w N (.slice (some ⟨g,o,none⟩) 2 c) 2 (opc [(x0,x1,x2),(y0,y1,y2)])) :
 Calls prog 206 #[.slice (some ⟨g,o,none⟩) 2 c] w fun e w'=>(∃ u,e=.returned u)∧WRow w' N (.slice (some ⟨g,o,none⟩) 2 c) 2 (opc [(y0,y1,y2),(x0,x1,x2)])∧Kb g w w':=by
 have HR:=Hh hr;obtain⟨_,_,hv,hcc,hh⟩:=WRow.op (l:=[(x0,x1,x2),(y0,y1,y2)]) hr;cases hv
 obtain⟨_,_,he,hg0,hg1,hh⟩:=hh sm;cases he
 obtain⟨k0,k1,k2,f0,f1,f2⟩:=hh 0 _ rfl;obtain⟨l0,l1,l2,e0,e1,e2⟩:=hh 1 _ rfl;simp only[Nat.zero_mul,Nat.add_zero,Nat.one_mul] at k0 k1 k2 f0 f1 f2 l0 l1 l2 e0 e1 e2;dsimp only[List.length_cons,List.length_nil] at hcc;have hcc2:(2:Int)≤(c:Int):=om
 clear hh hr;go_enter func206,ntmps206
 go_wp2_with fail
 go_loopw [2,3] (fun i j wr=>(i=.int .i64 0∧j=.int .i64 1∧Hid (wr=w))∨(i=.int .i64 1∧j=.int .i64 0∧Hid (WRow wr N (.slice (some ⟨g,o,none⟩) 2 c) 2 (opc [(y0,y1,y2),(x0,x1,x2)]))∧Hid (Kb g w wr))) (fun i _ _=>1 - (intOf i).toNat)
 case atStart=>exact .inl ⟨rfl,rfl,Hh rfl⟩
 case round =>
  rcases hrel with⟨rfl,rfl,HWE⟩|⟨rfl,rfl,HR2,HK2⟩
  · obtain rfl:=HWE.out;go_wp2_with fail
    go_region
    all_goals
     obtain⟨hwr,hkb⟩:=Rr HR.out _ rfl;have HWR:=Hh hwr;have HKB:=Hh hkb;clear hwr hkb;go_wp2_with fail
     go_roundw
     case rel=>exact .inr ⟨by go_num,by go_num,Hh (WRow.below HWR.out br.drew),Hh (Kb.drewK HKB.out)⟩
     case measure=>simp[intOf]
  · go_wp2_with fail
    go_end0
    exact⟨⟨_,rfl⟩,HR2.out,HK2.out⟩
theorem Tm (m:List UInt8) (v:Value) (l:List Op3) (b N:Nat) (w:World) (hW:WrAt w b N m v l) (hNw:N≤w.heap.size) (hm:m≠[69,88]) :
 Calls prog 163 #[.pointer (some ⟨b,0,none⟩)] w fun e w'=>(∃ u,e=.returned u)∧(∃ v',WrAt w' b N m v' l)∧Below N w w':=by
 have HW:=Hh hW;have HNW:=Hh hNw;have hm2:(m == [69,88])=false:=by simpa using hm
 have HM:=Hh hm;clear hm;obtain⟨t0,t1,s0,s1⟩:=aL hW.blk;have hbl:=aA hW.blk;obtain⟨a,c,rfl,hcc,_⟩:=WRow.op hW.row;clear hW hNw;go_enter func163,ntmps163
 go_wp2_with fail
 obtain⟨W,hW0⟩:∃ W,((w.alloc (.cells #[.int .i64 3,.int .i64 2,.int .i64 0] 144)).alloc (.cells #[.int .i64 3,.int .i64 1,.int .i64 0] 144))=W:=⟨_,rfl⟩;have hbW:Below w.heap.size w W:=by rw[←hW0];exact (br.alloc lr _).alloc sm _
 have hb0:W.heap[w.heap.size]? = some (.cells #[.int .i64 3,.int .i64 2,.int .i64 0] 144 (0,0)):=by rw[←hW0];exact aE (aF _ _)
 have hb1:W.heap[w.heap.size+1]? = some (.cells #[.int .i64 3,.int .i64 1,.int .i64 0] 144 (0,0)):=by rw[←hW0];have:=aF (w.alloc (.cells #[.int .i64 3,.int .i64 2,.int .i64 0] 144)) (.cells #[.int .i64 3,.int .i64 1,.int .i64 0] 144);rwa [World.size_alloc] at this
 rw[hW0];clear hW0;have HWW:=Hh (HW.out.below hbW);clear t0 t1 s0 s1 hbl;obtain⟨t0,t1,s0,s1⟩:=aL HWW.out.blk;have hbl:=aA HWW.out.blk;have HBW:=Hh hbW;have HB0:=Hh hb0;have HB1:=Hh hb1;clear hbW hb0 hb1;refine bO kr kr ?_;repeat (go_big_quiet_step (fail))
 refine wpQuiet_nil ?_;rintro W3 ⟨p3,hW3⟩;have hb3:Below W.heap.size W W3:=by rw[hW3];exact bl
 clear hW3 p3;have HW3:=Hh (HWW.out.below hb3);have HB3:=Hh (HBW.out.trans (hb3.mono HBW.out.size));clear hb3;go_wp2_with fail
 go_end0
 exact⟨⟨_,rfl⟩,⟨_,HW3.out⟩,HB3.out.mono HNW.out⟩
theorem rZ (w:World) (xs:List Value) (n:Nat) (T:TypeId):Row (w.alloc (.cells xs.toArray T)) (.slice (some ⟨w.heap.size,0,none⟩) n n) n xs:=by
 refine⟨_,_,rfl,Nat.le_refl _,fun _=>⟨w.heap.size,0,rfl,by rw[World.size_alloc];omega,fun j hj=>?_⟩⟩
 rw[Nat.zero_add,aC (aF w _)];simp
theorem Tn (v:Value) (l:List Op3) (b N:Nat) (w:World) (hW:WrAt w b N [69,88] v l) (hN:N≤b) (hNw:N≤w.heap.size) (hl:l.length≤1000) (D:Bool) (hD:decide (l=[(3,2,0),(3,1,0)])=D) :
 Calls prog 163 #[.pointer (some ⟨b,0,none⟩)] w fun e w'=>(∃ u,e=.returned u)∧(∃ v',WrAt w' b N [69,88] v' (if D=true then [(3,1,0),(3,2,0)] else l))∧Below N w w':=by
 have heq:=fun v2 X (hb:Below w.heap.size w X) h2=>qG v v2 l [(3,2,0),(3,1,0)] X (hW.row.row.below hb) h2 om dc;rw[hD] at heq;have HEQ:=Hh heq;clear heq;have HDD:=Hh hD;clear hD;have HW:=Hh hW;have HN:=Hh hN;have HNW:=Hh hNw;obtain⟨t0,t1,s0,s1⟩:=aL hW.blk;have hbl:=aA hW.blk;obtain⟨a,c,rfl,hcc,_⟩:=WRow.op hW.row;clear hW hNw hN;go_enter func163,ntmps163
 go_wp2_with fail
 obtain⟨W,hW0⟩:∃ W,((w.alloc (.cells #[.int .i64 3,.int .i64 2,.int .i64 0] 144)).alloc (.cells #[.int .i64 3,.int .i64 1,.int .i64 0] 144))=W:=⟨_,rfl⟩;have hbW:Below w.heap.size w W:=by rw[←hW0];exact (br.alloc lr _).alloc sm _
 have hb0:W.heap[w.heap.size]? = some (.cells #[.int .i64 3,.int .i64 2,.int .i64 0] 144 (0,0)):=by rw[←hW0];exact aE (aF _ _)
 have hb1:W.heap[w.heap.size+1]? = some (.cells #[.int .i64 3,.int .i64 1,.int .i64 0] 144 (0,0)):=by rw[←hW0];have:=aF (w.alloc (.cells #[.int .i64 3,.int .i64 2,.int .i64 0] 144)) (.cells #[.int .i64 3,.int .i64 1,.int .i64 0] 144);rwa [World.size_alloc] at this
 rw[hW0];clear hW0;have HWW:=Hh (HW.out.below hbW);clear t0 t1 s0 s1 hbl;obtain⟨t0,t1,s0,s1⟩:=aL HWW.out.blk;have hbl:=aA HWW.out.blk;have HBW:=Hh hbW;have HB0:=Hh hb0;have HB1:=Hh hb1;clear hbW hb0 hb1;obtain⟨z0,z1,z2,_,_,_⟩:=bE HB0.out;obtain⟨y0,y1,y2,_,_,_⟩:=bE HB1.out;have hlz:=aA HB0.out;have hly:=aA HB1.out;have hK:∀ X,Below W.heap.size W X→X.cell? ⟨b,0,none⟩=some (.string ⟨#[69,88]⟩)∧X.cell? ⟨b,1,none⟩=some (.slice a l.length c)∧X.cell? ⟨w.heap.size,0,none⟩=some (.int .i64 3)∧X.cell? ⟨w.heap.size,1,none⟩=some (.int .i64 2)∧X.cell? ⟨w.heap.size,2,none⟩=some (.int .i64 0)∧X.cell? ⟨w.heap.size+1,0,none⟩=some (.int .i64 3)∧X.cell? ⟨w.heap.size+1,1,none⟩=some (.int .i64 1)∧X.cell? ⟨w.heap.size+1,2,none⟩=some (.int .i64 0):=fun X hb=>⟨(hb.cell (p:=⟨b,0,none⟩) hbl).trans t0,(hb.cell (p:=⟨b,1,none⟩) hbl).trans t1,(hb.cell (p:=⟨w.heap.size,0,none⟩) hlz).trans z0,(hb.cell (p:=⟨w.heap.size,1,none⟩) hlz).trans z1,(hb.cell (p:=⟨w.heap.size,2,none⟩) hlz).trans z2,(hb.cell (p:=⟨w.heap.size+1,0,none⟩) hly).trans y0,(hb.cell (p:=⟨w.heap.size+1,1,none⟩) hly).trans y1,(hb.cell (p:=⟨w.heap.size+1,2,none⟩) hly).trans y2⟩;have hd:Below W.heap.size W ((W.alloc (.cells #[.int .i64 3,.int .i64 2,.int .i64 0,.int .i64 3,.int .i64 1,.int .i64 0] 144)).drew):=bl;have hro:Row ((W.alloc (.cells #[.int .i64 3,.int .i64 2,.int .i64 0,.int .i64 3,.int .i64 1,.int .i64 0] 144)).drew) (.slice (some ⟨W.heap.size,0,none⟩) 2 2) [((3,2,0):Op3),(3,1,0)].length (opc [(3,2,0),(3,1,0)]):=(rZ W (opc [(3,2,0),(3,1,0)]) 2 _).below ⟨rfl,rfl,rfl,Nat.le_refl _,fun _ _=>rfl⟩;have hcall:=HEQ.out _ _ (HBW.out.trans (hd.mono HBW.out.size)) hro;have K1:=hK W br;have K3:=hK _ hd;have HK:=Hh hK;clear hK;go_region_held3 (fun X=>X.cell? ⟨b,0,none⟩=some (.string ⟨#[69,88]⟩)∧X.cell? ⟨b,1,none⟩=some (.slice a l.length c)∧X.cell? ⟨w.heap.size,0,none⟩=some (.int .i64 3)∧X.cell? ⟨w.heap.size,1,none⟩=some (.int .i64 2)∧X.cell? ⟨w.heap.size,2,none⟩=some (.int .i64 0)∧X.cell? ⟨w.heap.size+1,0,none⟩=some (.int .i64 3)∧X.cell? ⟨w.heap.size+1,1,none⟩=some (.int .i64 1)∧X.cell? ⟨w.heap.size+1,2,none⟩=some (.int .i64 0)) (first|exact K1|exact K3|exact K4) (first|(with_reducible refine hcall.mono ?_;rintro e w4 ⟨rfl,hb4⟩;have hbw4:Below W.heap.size W w4:=hd.trans (hb4.mono hd.size);have K4:=HK.out w4 hbw4))
 have HW4:=Hh (HWW.out.below hbw4);have HB4:=Hh (HBW.out.trans (hbw4.mono HBW.out.size));clear hbw4 hb4 hd hro hcall K1 K3 K4 t0 t1 s0 s1 z0 z1 z2 y0 y1 y2 hbl hlz hly;obtain⟨t0,t1,s0,s1⟩:=aL HW4.out.blk;have hbl:=aA HW4.out.blk;cases D with
 | false =>
   go_wp2_with fail
   go_end0
   exact⟨⟨_,rfl⟩,⟨_,HW4.out⟩,HB4.out.mono HNW.out⟩
 | true =>
   have hl2:l=[(3,2,0),(3,1,0)]:=of_decide_eq_true HDD.out;subst hl2;obtain⟨_,_,hv,_,hh⟩:=WRow.op HW4.out.row;cases hv
   obtain⟨g,o,rfl,hg0,hg1,_⟩:=hh sm;have hrv:=Rq g o c 3 2 0 3 1 0 N w4 HW4.out.row;have HRV:=Hh hrv;clear hrv hh;have HG:=Hh hg0;have hgb:g≠b:=fun e=>HW4.out.ne (by rw[e];rfl);have HGB:=Hh hgb;clear hgb hg0;dsimp only[List.length_cons,List.length_nil] at t1 ⊢;go_wp2_with fail
   (with_reducible refine HRV.out.mono ?_);rintro e w5 ⟨⟨u,rfl⟩,hr5,hk5⟩;have HR5:=Hh hr5;have HK5:=Hh hk5;clear hr5 hk5;go_wp2_with fail
   go_end0
   refine⟨⟨_,rfl⟩,⟨_,⟨(HK5.out.block b hbl (fun e=>HGB.out e.symm)).trans HW4.out.blk,HR5.out,HW4.out.ne⟩⟩,(HB4.out.mono HNW.out).trans ⟨HK5.out.os,HK5.out.tape,HK5.out.output,HK5.out.size,fun k hk=>HK5.out.block k (by have:=HB4.out.size;have:=HNW.out;omega) (by have:=HG.out;omega)⟩⟩
theorem Pg (m:List UInt8) (v:Value) (l:List Op3) (b N:Nat) (w:World) (hW:WrAt w b N m v l) (hN:N≤b) (hNw:N≤w.heap.size) (hl:l.length≤1000) :
 Calls prog 163 #[.pointer (some ⟨b,0,none⟩)] w fun e w'=>(∃ u,e=.returned u)∧(∃ v',WrAt w' b N m v' (exP m l))∧Below N w w':=by
 by_cases hm:m=[69,88]
 · subst hm;have h:=Tn v l b N w hW hN hNw hl _ rfl;have e:exP [69,88] l=if decide (l=[(3,2,0),(3,1,0)])=true then [(3,1,0),(3,2,0)] else l:=by
    unfold exP;by_cases h:l=[(3,2,0),(3,1,0)]<;>simp[h]
   rw[e];exact h
 · have e:exP m l=l:=by unfold exP;rw[if_neg (fun h=>hm h.1)]
   rw[e];exact Tm m v l b N w hW hNw hm
theorem nA (a0 a1 a2:Value) (w:World) :
 (Instr.index 230 (.agg #[a0,a1,a2]) (.int .i64 0)).run prog w=.ok a0 w∧(Instr.index 230 (.agg #[a0,a1,a2]) (.int .i64 1)).run prog w=.ok a1 w ∧
 (Instr.index 230 (.agg #[a0,a1,a2]) (.int .i64 2)).run prog w=.ok a2 w:=by
 refine⟨?_,?_,?_⟩<;>(change _=_;kernel_rfl)
theorem Nb (m:List UInt8) (v:Value) (l:List Op3) (w:World) (hT:TabsA w) (hr:Row w v l.length (opc l)) (hl:l.length≤900) :
 Calls prog 115 #[eU m v] w fun e w'=>∃ v',e=.returned (eU m v')∧WRow w' w.heap.size v' (bV (m,l)).2.length (opc (bV (m,l)).2)∧Below w.heap.size w w':=by
 have hcl:=fun X (hb:Below w.heap.size w X)=>vO v l X (hr.below hb) om;have hA:(fU (m,l)).length≤l.length+1:=Ak (m,l);have hE:(exP m (fU (m,l))).length=(fU (m,l)).length:=Fc m _;have hwid:=xL (m,l);have hacc:=fun X v' b (hb:Below w.heap.size w X) hW=>Us m v' l b (w.heap.size+1+1) X (hT.below hb) hW;have hexc:=fun X v' b hW=>Pg m v' (fU (m,l)) b (w.heap.size+1+1) X hW;have hnum:=fun X v' b (hb:Below w.heap.size w X) hW=>Nc m v' (exP m (fU (m,l))) b (w.heap.size+1+1) X (hT.below hb) hW;have hcp:(bV (m,l)).2=(exP m (fU (m,l))).map (sC (cY (m,exP m (fU (m,l))))):=by
  unfold bV;dsimp only at hwid ⊢;rw[hwid]
 rw[hcp];obtain⟨L1,h1⟩:∃ L1,fU (m,l)=L1:=⟨_,rfl⟩;rw[h1] at hA hE hacc hexc hnum ⊢;obtain⟨L2,h2⟩:∃ L2,exP m L1=L2:=⟨_,rfl⟩;rw[h2] at hE hexc hnum ⊢;obtain⟨L3,h3⟩:∃ L3,L2.map (sC (cY (m,L2)))=L3:=⟨_,rfl⟩;rw[h3] at hnum ⊢;clear h1 h2 h3 hwid hcp;have HCL:=Hh hcl;clear hcl;have HACC:=Hh hacc;clear hacc;have HEXC:=Hh hexc;clear hexc;have HNUM:=Hh hnum;clear hnum;have HL:=Hh (And.intro hA hE);clear hA hE;clear hT;obtain⟨a,c,rfl,_,_⟩:=hr;go_enter func115,ntmps115
 go_wp2_with fail
 obtain⟨W,hW⟩:∃ W,((w.alloc (.cells #[.string ⟨m.toArray⟩,.slice a l.length c] 53)).alloc (.cells #[.string ⟨#[]⟩,.slice none 0 0] 53))=W:=⟨_,rfl⟩;have hbW:Below w.heap.size w W:=by rw[←hW];exact (br.alloc lr _).alloc sm _
 have hsz:W.heap.size=w.heap.size+1+1:=by rw[←hW];simp
 have h0:W.heap[w.heap.size]? = some (.cells #[.string ⟨m.toArray⟩,.slice a l.length c] 53 (0,0)):=by rw[←hW];exact aE (aF _ _)
 have h1:W.heap[w.heap.size+1]? = some (.cells #[.string ⟨#[]⟩,.slice none 0 0] 53 (0,0)):=by rw[←hW];have:=aF (w.alloc (.cells #[.string ⟨m.toArray⟩,.slice a l.length c] 53)) (.cells #[.string ⟨#[]⟩,.slice none 0 0] 53);rwa [World.size_alloc] at this
 rw[hW];clear hW;obtain⟨t0,t1,_,_⟩:=aL h0;have hl0:w.heap.size<W.heap.size:=om
 have HSZ:=Hh hsz;have H0:=Hh h0;have H1:=Hh h1;have HBW:=Hh hbW;have hK:∀ X,Below W.heap.size W X→X.cell? ⟨w.heap.size,0,none⟩=some (.string ⟨m.toArray⟩)∧X.cell? ⟨w.heap.size,1,none⟩=some (.slice a l.length c):=fun X hb=>⟨(hb.cell (p:=⟨w.heap.size,0,none⟩) hl0).trans t0,(hb.cell (p:=⟨w.heap.size,1,none⟩) hl0).trans t1⟩;have HK:=Hh hK;have K1:=hK W br;clear hsz h0 h1 hbW hK;have hd:Below W.heap.size W W.drew:=bl;have hd2:Below w.heap.size w W.drew:=HBW.out.trans (hd.mono HBW.out.size);go_region_held3 (fun X=>X.cell? ⟨w.heap.size,0,none⟩=some (.string ⟨m.toArray⟩)∧X.cell? ⟨w.heap.size,1,none⟩=some (.slice a l.length c)) (first|exact K1|exact K4|exact K5) (first|((with_reducible refine (HCL.out _ hd2).mono ?_);rintro e w4 ⟨v4,rfl,hown4,hb4⟩;have hbw4:Below W.heap.size W w4:=hd.trans hb4;have K4:=HK.out w4 hbw4;obtain⟨a4,c4,rfl⟩:=aI hown4;have K5:=HK.out (w4.alloc (.cells #[.string ⟨m.toArray⟩,.slice a4 l.length c4] 228)) (hbw4.alloc hbw4.size _)))
 obtain⟨W5,hW5⟩:∃ W5,(w4.alloc (.cells #[.string ⟨m.toArray⟩,.slice a4 l.length c4] 228))=W5:=⟨_,rfl⟩;have hb45:Below w4.heap.size w4 W5:=by rw[←hW5];exact br.alloc lr _
 have hblk5:W5.heap[w4.heap.size]? = some (.cells #[.string ⟨m.toArray⟩,.slice a4 l.length c4] 228 (0,0)):=by rw[←hW5];exact aF _ _
 rw[hW5];clear hW5 K1 K4 K5;have hs4:w.heap.size+1+1≤w4.heap.size:=by have:=hbw4.size;rw[HSZ.out] at this;exact this
 have hbw5:Below W.heap.size W W5:=hbw4.trans (hb45.mono hbw4.size);have hbw:Below w.heap.size w W5:=HBW.out.trans (hbw5.mono HBW.out.size);have hwr5:WrAt W5 w4.heap.size (w.heap.size+1+1) m (.slice a4 l.length c4) l:=⟨hblk5,((WRow.of_owns hown4).mono (by show w.heap.size+1+1≤W.heap.size;rw[HSZ.out];exact Nat.le_refl _)).below hb45,fun e=>by have:=(hown4.lt _ e).2;omega⟩
 have hres5:=aB H1.out hbw5 (by rw[HSZ.out];omega);have hcall5:=HACC.out W5 _ _ hbw hwr5 om (by have:=hb45.size;omega);obtain⟨b,hb⟩:∃ b,w4.heap.size=b:=⟨_,rfl⟩;rw[hb] at hs4 hwr5 hcall5 ⊢;have HC5:=Hh hcall5;have HR5:=Hh hres5;have HBW5:=Hh hbw;have HS4:=Hh hs4;clear hb45 hblk5 hbw5 hbw hwr5 hres5 hcall5 hb hd hd2 hb4 hbw4 hown4 t0 t1 hl0;go_wp2_with fail
 go_loopw [15] (fun i wr=>∃ j:Nat,j≤3∧i=.int .i64 j∧Hid (Below w.heap.size w wr)∧Hid (wr.heap[w.heap.size+1]? = some (.cells #[.string ⟨#[]⟩,.slice none 0 0] 53 (0,0)))∧Hid ((j=0∧wr=W5)∨(j=1∧∃ v1,WrAt wr b (w.heap.size+1+1) m v1 L1)∨(j=2∧∃ v1,WrAt wr b (w.heap.size+1+1) m v1 L2)∨(j=3∧∃ v1,WrAt wr b (w.heap.size+1+1) m v1 L3))) (fun i _=>3 - (intOf i).toNat)
 case atStart=>exact⟨0,om,rfl,HBW5,HR5,Hh (.inl ⟨rfl,rfl⟩)⟩
 case round =>
  obtain⟨j,hj,rfl,HB,HR,HJ⟩:=hrel;rcases HJ.out with⟨rfl,rfl⟩|⟨rfl,v1,hwr⟩|⟨rfl,v1,hwr⟩|⟨rfl,v1,hwr⟩
  · obtain⟨hix,_,_⟩:=nA (.func (.func 162) #[] #[]) (.func (.func 163) #[] #[]) (.func (.func 164) #[] #[]) wr;go_wp2_with fail
    (with_reducible refine HC5.out.mono ?_);rintro e w6 ⟨⟨u,rfl⟩,⟨v6,hwr6⟩,hb6⟩;have HR6:=Hh (aB HR.out hb6 (by have:=HS4.out;omega));have HB6:=Hh (HB.out.trans (hb6.mono om));have HW6:=Hh hwr6;clear hwr6 hb6;go_wp2_with fail
    go_roundw
    case rel=>exact⟨1,om,by go_num,HB6,HR6,Hh (.inr (.inl ⟨rfl,v6,HW6.out⟩))⟩
    case measure=>simp[intOf]
  · obtain⟨_,hix,_⟩:=nA (.func (.func 162) #[] #[]) (.func (.func 163) #[] #[]) (.func (.func 164) #[] #[]) wr;have hcall:=HEXC.out wr v1 b hwr (by have:=HS4.out;omega) (by have:=aA HR.out;omega) (by have:=HL.out;omega);have HC:=Hh hcall;clear hcall hwr;go_wp2_with fail
    (with_reducible refine HC.out.mono ?_);rintro e w6 ⟨⟨u,rfl⟩,⟨v6,hwr6⟩,hb6⟩;have HR6:=Hh (aB HR.out hb6 (by have:=HS4.out;omega));have HB6:=Hh (HB.out.trans (hb6.mono om));have HW6:=Hh hwr6;clear hwr6 hb6;go_wp2_with fail
    go_roundw
    case rel=>exact⟨2,om,by go_num,HB6,HR6,Hh (.inr (.inr (.inl ⟨rfl,v6,HW6.out⟩)))⟩
    case measure=>simp[intOf]
  · obtain⟨_,_,hix⟩:=nA (.func (.func 162) #[] #[]) (.func (.func 163) #[] #[]) (.func (.func 164) #[] #[]) wr;have hcall:=HNUM.out wr v1 b HB.out hwr (by have:=HS4.out;omega) (by have:=aA HR.out;omega) (by have:=HL.out;omega);have HC:=Hh hcall;clear hcall hwr;go_wp2_with fail
    (with_reducible refine HC.out.mono ?_);rintro e w6 ⟨⟨u,rfl⟩,hwr6,hb6⟩;have HR6:=Hh (aB HR.out hb6 (by have:=HS4.out;omega));have HB6:=Hh (HB.out.trans (hb6.mono om));have HW6:=Hh hwr6;clear hwr6 hb6;go_wp2_with fail
    go_roundw
    case rel=>exact⟨3,om,by go_num,HB6,HR6,Hh (.inr (.inr (.inr ⟨rfl,v1,HW6.out⟩)))⟩
    case measure=>simp[intOf]
  · obtain⟨t0,t1,_,_⟩:=aL hwr.blk;obtain⟨r0,r1,q0,q1⟩:=aL HR.out;have HWR:=Hh hwr;have hne:¬ b=w.heap.size+1:=by have:=HS4.out;omega
    have hlb:=aA hwr.blk;obtain⟨av,cv,hv,_,_⟩:=hwr.row.op;subst hv;clear hwr;go_wp2_with fail
    have hb9:((wr.setCell ⟨w.heap.size+1,0,none⟩ (.string ⟨m.toArray⟩)).setCell ⟨w.heap.size+1,1,none⟩ (.slice av L3.length cv)).heap[w.heap.size+1]? = some (.cells #[.string ⟨m.toArray⟩,.slice av L3.length cv] 53 (0,0)):=aG (aG HR.out);obtain⟨n0,n1,_,_⟩:=aL hb9;refine bodyPost_ret (v:=eU m (.slice av L3.length cv)) (by simp[results,results115,go_sem,n0,n1]) rfl ⟨_,rfl,?_,(HB.out.setCell (p:=⟨w.heap.size+1,0,none⟩) (by show w.heap.size≤w.heap.size+1;omega) _).setCell (p:=⟨w.heap.size+1,1,none⟩) (by show w.heap.size≤w.heap.size+1;omega) _⟩;exact ((HWR.out.row.kb ((Kb.refl (w.heap.size+1) wr).setCell 0 _) om).kb ((Kb.refl (w.heap.size+1) _).setCell 1 _) om).mono om
end Go.Proofs.YtoigglljnklhlaaGreatDoor
