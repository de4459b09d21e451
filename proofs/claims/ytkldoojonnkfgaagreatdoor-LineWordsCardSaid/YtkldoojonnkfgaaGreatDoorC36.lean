/- Joined texts: CanonW, AccT, RevT, ExchT, ShapesT. -/
import Derived.Test.YtkldoojonnkfgaaGreatDoorC35
namespace Go.Proofs.YtkldoojonnkfgaaGreatDoor
open Go.RowKit Go.Sort
theorem cword_any (l s:List UInt8) (w:World) (hT:TabsA w) (hl:l.length≤1000) (ha:l.all (fun b=>decide (b.toNat<128))=true) (hf:(Lib.fields l).length≤1000) :
 Calls Tryz.prog 167 #[.string ⟨l.toArray⟩,.string ⟨s.toArray⟩] w fun e w'=>e=.returned (.bool (decide (s∈Lib.fields l)))∧Below w.heap.size w w':=by
 have h:=fields_any l w hT (by omega) ha
 have hrow:Row (w.alloc (.cells ((Lib.fields l).map fun x=>Value.string ⟨x.toArray⟩).toArray 9)) (.slice (some ⟨w.heap.size,0,none⟩) (Lib.fields l).length (Lib.fields l).length) (Lib.fields l).length ((Lib.fields l).map Proofs.encStr):=by
  refine ⟨_,_,rfl,Nat.le_refl _,fun _=>⟨w.heap.size,0,rfl,by rw [World.size_alloc]; omega,fun j hj=>?_⟩⟩
  rw [Nat.zero_add,blk_cell (blk_new w _)]
  simp
  try rfl
 have hc:=contains_any (Lib.fields l) ⟨s.toArray⟩ _ _ hrow (by omega)
 obtain ⟨D,hD⟩:∃ D,decide (s∈Lib.fields l)=D:=⟨_,rfl⟩
 have hD2:decide ((⟨s.toArray⟩:ByteArray).data.toList∈Lib.fields l)=D:=hD
 rw [hD2] at hc
 rw [hD]
 clear hD hD2 hrow hf ha
 generalize Lib.fields l=F at *
 have H:=Hh h; clear h
 have HC:=Hh hc; clear hc
 go_enter Tryz.func167,Tryz.ntmps167
 go_wp2_with fail
 refine H.out.mono ?_
 rintro e w' ⟨rfl,rfl⟩
 go_wp2_with fail
 refine HC.out.mono ?_
 rintro e w' ⟨rfl,rfl⟩
 go_wp2_with fail
 go_ret
 exact ⟨rfl,bl⟩
def subT:List UInt8:=[83,85,66,32,65,78,68,32,88,79,82,32,79,82,32,67,80]
def addT:List UInt8:=[65,68,68,32,65,68,67,32,83,66,67]
theorem subT_fields:Lib.fields subT=[[83,85,66],[65,78,68],[88,79,82],[79,82],[67,80]]:=by decide +kernel
theorem addT_fields:Lib.fields addT=[[65,68,68],[65,68,67],[83,66,67]]:=by decide +kernel
theorem sub_any (m:List UInt8) (w:World) (hT:TabsA w):Calls Tryz.prog 167 #[.string ⟨#[83,85,66,32,65,78,68,32,88,79,82,32,79,82,32,67,80]⟩,.string ⟨m.toArray⟩] w fun e w'=>e=.returned (.bool (decide (m∈([[83,85,66],[65,78,68],[88,79,82],[79,82],[67,80]]:List (List UInt8)))))∧Below w.heap.size w w':=by
 have h:=cword_any subT m w hT (by decide) (by decide +kernel) (by rw [subT_fields]; decide)
 rw [subT_fields] at h
 exact h
theorem add_any (m:List UInt8) (w:World) (hT:TabsA w):Calls Tryz.prog 167 #[.string ⟨#[65,68,68,32,65,68,67,32,83,66,67]⟩,.string ⟨m.toArray⟩] w fun e w'=>e=.returned (.bool (decide (m∈([[65,68,68],[65,68,67],[83,66,67]]:List (List UInt8)))))∧Below w.heap.size w w':=by
 have h:=cword_any addT m w hT (by decide) (by decide +kernel) (by rw [addT_fields]; decide)
 rw [addT_fields] at h
 exact h
structure WrAt (w:World) (b N:Nat) (m:List UInt8) (v:Value) (l:List Op3):Prop where
 blk:w.heap[b]? = some (.cells #[.string ⟨m.toArray⟩,v] 174 (0,0))
 row:WRow w N v l.length (opc l)
 ne:v.ownBlock≠some b
theorem WrAt.below {w w':World} {b N:Nat} {m:List UInt8} {v:Value} {l:List Op3} (h:WrAt w b N m v l) (hb:Below w.heap.size w w'):WrAt w' b N m v l:=⟨blk_below h.blk hb (blk_lt h.blk),h.row.below hb,h.ne⟩
theorem WRow.tailO {w:World} {b g o cap:Nat} {x:Op3} {l:List Op3} (h:WRow w b (.slice (some ⟨g,o,none⟩) (l.length+1) cap) (l.length+1) (opc (x::l))):WRow w b (.slice (some ⟨g,o+3,none⟩) l.length (cap - 1)) l.length (opc l):=by
 obtain ⟨a,c,hv,hn,h⟩:=h
 cases hv
 refine ⟨_,_,rfl,by omega,fun hx=>?_⟩
 obtain ⟨g',o',he,h0,hg,hc,hf⟩:=h (by show [Value.int .i64 x.1,.int .i64 x.2.1,.int .i64 x.2.2]++opc l≠[]; simp)
 cases he
 have hl:(opc (x::l)).length=3+(opc l).length:=by rw [opc_len,opc_len]; simp; omega
 refine ⟨g,o+3,rfl,h0,hg,fun j hj=>?_,fun j hj=>?_⟩
 · rw [Nat.add_assoc,hc (3+j) (by omega)]
   show ([Value.int .i64 x.1,.int .i64 x.2.1,.int .i64 x.2.2]++opc l)[3+j]? = _
   rw [List.getElem?_append_right (by simp)]
   congr 1
   simp
 · rw [Nat.add_assoc]; exact hf (3+j) (by omega)
theorem WrAt.put {w:World} {b N:Nat} {m:List UInt8} {v v':Value} {l l':List Op3} (h:WrAt w b N m v l) (hr:WRow w N v' l'.length (opc l')) (hne:v'.ownBlock≠some b):WrAt (w.setCell ⟨b,1,none⟩ v') b N m v' l' :=
 ⟨blk_set h.blk,hr.kb_ne ((Kb.refl b w).setCell 1 v') (fun _=>hne),hne⟩
set_option maxRecDepth 100000 in
set_option maxHeartbeats 4000000 in
theorem acc_tail (m:List UInt8) (g o c:Nat) (y:Op3) (b N:Nat) (w:World) (hT:TabsA w) (hW:WrAt w b N m (.slice (some ⟨g,o,none⟩) 2 c) [(1,7,0),y]) (hN:N≤b) (hNw:N≤w.heap.size) (hm:m∈([[83,85,66],[65,78,68],[88,79,82],[79,82],[67,80]]:List (List UInt8))) :
 Calls Tryz.prog 91 #[.pointer (some ⟨b,0,none⟩)] w fun e w'=>(∃ u,e=.returned u)∧(∃ v',WrAt w' b N m v' [y])∧Below N w w':=by
 have hsub:=fun W (hb:Below w.heap.size w W)=>sub_any m W (hT.below hb)
 rw [decide_eq_true hm] at hsub
 have HSUB:=Hh hsub; clear hsub hm
 have HW:=Hh hW
 have HNN:=Hh hN; have HNW:=Hh hNw
 obtain ⟨_,_,hv,hcc,hh⟩:=WRow.op hW.row
 cases hv
 obtain ⟨_,_,he,hg0,hg1,hh⟩:=hh (by simp)
 cases he
 obtain ⟨k0,k1,k2,f0,f1,f2⟩:=hh 0 (1,7,0) rfl
 obtain ⟨t0,t1,s0,s1⟩:=cells2 hW.blk
 have hbl:=blk_lt hW.blk
 simp only [Nat.zero_mul,Nat.add_zero] at k0 k1 k2 f0 f1 f2
 dsimp only [List.length_cons,List.length_nil] at hcc
 have hcc2:(2:Int)≤(c:Int):=by omega
 clear hh hW hT hN hNw
 go_enter Tryz.func91,Tryz.ntmps91
 go_wp2_with fail
 refine wp_region_gw (by kernel_rfl) (by kernel_rfl) ?_
 repeat (go_big_quiet_step (first | exact gw_quiet (HSUB.out _ (bl))))
 refine wpQuiet_nil ?_
 rintro W3 ⟨p3,hW3⟩
 have hb3:Below w.heap.size w W3:=by rw [hW3]; (repeat (first | exact Below.refl _ _ | refine Below.drew ?_ | (refine below_gw' ?_ (by first | omega | (simp [go_sem]; done) | (simp [go_sem]; omega)) _) | (refine Below.alloc ?_ (by first | omega | (simp [go_sem]; done) | (simp [go_sem]; omega)) _) | (refine Below.setCell ?_ (by first | omega | (simp [go_sem]; done) | (simp [go_sem]; omega)) _)))
 have hbox:W3.heap[w.heap.size]? = some (.cells #[.int .i64 1,.int .i64 7,.int .i64 0] 172 (0,0)):=by
  rw [hW3]
  exact blk_below (blk_new w _) (below_gw _ p3) (by rw [World.size_alloc]; omega)
 clear hW3 p3
 have HW3:=Hh (HW.out.below hb3)
 have HB3:=Hh hb3
 have HBOX:=Hh hbox
 clear hb3 hbox
 obtain ⟨t0',t1',s0',s1'⟩:=cells2 HW3.out.blk
 have hbl3:=blk_lt HW3.out.blk
 go_wp2_with fail
 go_end0
 exact ⟨⟨_,rfl⟩,⟨_,HW3.out.put (WRow.tailO (x:=(1,7,0)) (l:=[y]) HW3.out.row) HW3.out.ne⟩,(HB3.out.mono HNW.out).setCell (p:=⟨b,1,none⟩) HNN.out _⟩
theorem acc_fin {w4 w:World} {b N:Nat} {m:List UInt8} {v:Value} {l:List Op3} (h:WrAt w4 b N m v l) (hb:Below w.heap.size w w4) (hN:N≤b) (hNw:N≤w.heap.size) (x0 x1 x2:Int) (X:World) (hX:X=(w4.setCell ⟨b,1,none⟩ (.slice (some ⟨w4.heap.size,0,none⟩) 2 2)).alloc (.cells #[.int .i64 1,.int .i64 7,.int .i64 0,.int .i64 x0,.int .i64 x1,.int .i64 x2] 172)) :
 WrAt X b N m (.slice (some ⟨w4.heap.size,0,none⟩) 2 2) [(1,7,0),(x0,x1,x2)]∧Below N w X:=by
 subst hX
 have hlt:=blk_lt h.blk
 have hs:=hb.size
 have hnew:=blk_new (w4.setCell ⟨b,1,none⟩ (.slice (some ⟨w4.heap.size,0,none⟩) 2 2)) (.cells #[.int .i64 1,.int .i64 7,.int .i64 0,.int .i64 x0,.int .i64 x1,.int .i64 x2] 172)
 rw [setCell_size] at hnew
 refine ⟨⟨blk_alloc (blk_set h.blk),⟨_,_,rfl,Nat.le_refl _,fun _=>⟨w4.heap.size,0,rfl,by omega,by rw [World.size_alloc,setCell_size]; omega,fun j hj=>?_,fun j hj=>?_⟩⟩,fun e=>?_⟩,((hb.mono hNw).setCell (p:=⟨b,1,none⟩) hN _).alloc (by rw [setCell_size]; omega) _⟩
 · rw [Nat.zero_add,blk_cell hnew]
   simp [opc]
 · rw [Nat.zero_add]; exact blk_frozen hnew j
 · have:w4.heap.size=b:=Option.some.inj e
   omega
set_option maxRecDepth 100000 in
set_option maxHeartbeats 4000000 in
theorem acc_n1 (m:List UInt8) (a:Option Addr) (c:Nat) (l:List Op3) (b N:Nat) (w:World) (hT:TabsA w) (hW:WrAt w b N m (.slice a l.length c) l) (hN:N≤b) (hNw:N≤w.heap.size) (hm:decide (m∈([[83,85,66],[65,78,68],[88,79,82],[79,82],[67,80]]:List (List UInt8)))=false) (hm2:decide (m∈([[65,68,68],[65,68,67],[83,66,67]]:List (List UInt8)))=false) :
 Calls Tryz.prog 91 #[.pointer (some ⟨b,0,none⟩)] w fun e w'=>(∃ u,e=.returned u)∧(∃ v',WrAt w' b N m v' l)∧Below N w w':=by
 have hsub:=fun W (hb:Below w.heap.size w W)=>sub_any m W (hT.below hb)
 rw [hm] at hsub
 have HSUB:=Hh hsub; clear hsub hm
 have hadd:=fun W (hb:Below w.heap.size w W)=>add_any m W (hT.below hb)
 rw [hm2] at hadd
 have HADD:=Hh hadd; clear hadd hm2
 have HW:=Hh hW
 have HNN:=Hh hN; have HNW:=Hh hNw
 obtain ⟨t0,t1,s0,s1⟩:=cells2 hW.blk
 have hbl:=blk_lt hW.blk
 clear hW hT hN hNw
 go_enter Tryz.func91,Tryz.ntmps91
 go_wp2_with fail
 refine wp_region_gw (by kernel_rfl) (by kernel_rfl) ?_
 repeat (go_big_quiet_step (first | exact gw_quiet (HSUB.out _ (bl))))
 refine wpQuiet_nil ?_
 rintro W3 ⟨p3,hW3⟩
 have hb3:Below w.heap.size w W3:=by rw [hW3]; (repeat (first | exact Below.refl _ _ | refine Below.drew ?_ | (refine below_gw' ?_ (by first | omega | (simp [go_sem]; done) | (simp [go_sem]; omega)) _) | (refine Below.alloc ?_ (by first | omega | (simp [go_sem]; done) | (simp [go_sem]; omega)) _) | (refine Below.setCell ?_ (by first | omega | (simp [go_sem]; done) | (simp [go_sem]; omega)) _)))
 have hbox:W3.heap[w.heap.size]? = some (.cells #[.int .i64 1,.int .i64 7,.int .i64 0] 172 (0,0)):=by
  rw [hW3]
  exact blk_below (blk_new w _) (below_gw _ p3) (by rw [World.size_alloc]; omega)
 clear hW3 p3
 have HW3:=Hh (HW.out.below hb3)
 have HB3:=Hh hb3
 have HBOX:=Hh hbox
 clear hb3 hbox
 obtain ⟨t0',t1',s0',s1'⟩:=cells2 HW3.out.blk
 have hbl3:=blk_lt HW3.out.blk
 go_wp2_with fail
 (with_reducible refine (HADD.out _ HB3.out).mono ?_)
 rintro e w4 ⟨rfl,hb4⟩
 have HW4:=Hh (HW3.out.below hb4)
 have HBOX4:=Hh (blk_below HBOX.out hb4 (blk_lt HBOX.out))
 have HB4:=Hh (HB3.out.trans (hb4.mono HB3.out.size))
 clear hb4 t0' t1' s0' s1' hbl3
 obtain ⟨t0,t1,s0,s1⟩:=cells2 HW4.out.blk
 have hbl4:=blk_lt HW4.out.blk
 go_wp2_with fail
 go_end0
 exact ⟨⟨_,rfl⟩,⟨_,HW4.out⟩,HB4.out.mono HNW.out⟩
set_option maxRecDepth 100000 in
set_option maxHeartbeats 4000000 in
theorem acc_n2 (m:List UInt8) (a:Option Addr) (c:Nat) (l:List Op3) (b N:Nat) (w:World) (hT:TabsA w) (hW:WrAt w b N m (.slice a l.length c) l) (hN:N≤b) (hNw:N≤w.heap.size) (hm:decide (m∈([[83,85,66],[65,78,68],[88,79,82],[79,82],[67,80]]:List (List UInt8)))=false) (hm2:decide (m∈([[65,68,68],[65,68,67],[83,66,67]]:List (List UInt8)))=true) (hlen:((l.length:Int) == 1)=false) :
 Calls Tryz.prog 91 #[.pointer (some ⟨b,0,none⟩)] w fun e w'=>(∃ u,e=.returned u)∧(∃ v',WrAt w' b N m v' l)∧Below N w w':=by
 have hsub:=fun W (hb:Below w.heap.size w W)=>sub_any m W (hT.below hb)
 rw [hm] at hsub
 have HSUB:=Hh hsub; clear hsub hm
 have hadd:=fun W (hb:Below w.heap.size w W)=>add_any m W (hT.below hb)
 rw [hm2] at hadd
 have HADD:=Hh hadd; clear hadd hm2
 have HW:=Hh hW
 have HNN:=Hh hN; have HNW:=Hh hNw
 obtain ⟨t0,t1,s0,s1⟩:=cells2 hW.blk
 have hbl:=blk_lt hW.blk
 clear hW hT hN hNw
 go_enter Tryz.func91,Tryz.ntmps91
 go_wp2_with fail
 refine wp_region_gw (by kernel_rfl) (by kernel_rfl) ?_
 repeat (go_big_quiet_step (first | exact gw_quiet (HSUB.out _ (bl))))
 refine wpQuiet_nil ?_
 rintro W3 ⟨p3,hW3⟩
 have hb3:Below w.heap.size w W3:=by rw [hW3]; (repeat (first | exact Below.refl _ _ | refine Below.drew ?_ | (refine below_gw' ?_ (by first | omega | (simp [go_sem]; done) | (simp [go_sem]; omega)) _) | (refine Below.alloc ?_ (by first | omega | (simp [go_sem]; done) | (simp [go_sem]; omega)) _) | (refine Below.setCell ?_ (by first | omega | (simp [go_sem]; done) | (simp [go_sem]; omega)) _)))
 have hbox:W3.heap[w.heap.size]? = some (.cells #[.int .i64 1,.int .i64 7,.int .i64 0] 172 (0,0)):=by
  rw [hW3]
  exact blk_below (blk_new w _) (below_gw _ p3) (by rw [World.size_alloc]; omega)
 clear hW3 p3
 have HW3:=Hh (HW.out.below hb3)
 have HB3:=Hh hb3
 have HBOX:=Hh hbox
 clear hb3 hbox
 obtain ⟨t0',t1',s0',s1'⟩:=cells2 HW3.out.blk
 have hbl3:=blk_lt HW3.out.blk
 go_wp2_with fail
 (with_reducible refine (HADD.out _ HB3.out).mono ?_)
 rintro e w4 ⟨rfl,hb4⟩
 have HW4:=Hh (HW3.out.below hb4)
 have HBOX4:=Hh (blk_below HBOX.out hb4 (blk_lt HBOX.out))
 have HB4:=Hh (HB3.out.trans (hb4.mono HB3.out.size))
 clear hb4 t0' t1' s0' s1' hbl3
 obtain ⟨t0,t1,s0,s1⟩:=cells2 HW4.out.blk
 have hbl4:=blk_lt HW4.out.blk
 go_wp2_with fail
 go_end0
 exact ⟨⟨_,rfl⟩,⟨_,HW4.out⟩,HB4.out.mono HNW.out⟩
set_option maxRecDepth 100000 in
set_option maxHeartbeats 4000000 in
theorem acc_n3 (m:List UInt8) (a:Option Addr) (c:Nat) (l:List Op3) (b N:Nat) (w:World) (hT:TabsA w) (hW:WrAt w b N m (.slice a l.length c) l) (hN:N≤b) (hNw:N≤w.heap.size) (hm:decide (m∈([[83,85,66],[65,78,68],[88,79,82],[79,82],[67,80]]:List (List UInt8)))=true) (hm2:decide (m∈([[65,68,68],[65,68,67],[83,66,67]]:List (List UInt8)))=false) (hlen:((l.length:Int) == 2)=false) :
 Calls Tryz.prog 91 #[.pointer (some ⟨b,0,none⟩)] w fun e w'=>(∃ u,e=.returned u)∧(∃ v',WrAt w' b N m v' l)∧Below N w w':=by
 have hsub:=fun W (hb:Below w.heap.size w W)=>sub_any m W (hT.below hb)
 rw [hm] at hsub
 have HSUB:=Hh hsub; clear hsub hm
 have hadd:=fun W (hb:Below w.heap.size w W)=>add_any m W (hT.below hb)
 rw [hm2] at hadd
 have HADD:=Hh hadd; clear hadd hm2
 have HW:=Hh hW
 have HNN:=Hh hN; have HNW:=Hh hNw
 obtain ⟨t0,t1,s0,s1⟩:=cells2 hW.blk
 have hbl:=blk_lt hW.blk
 clear hW hT hN hNw
 go_enter Tryz.func91,Tryz.ntmps91
 go_wp2_with fail
 refine wp_region_gw (by kernel_rfl) (by kernel_rfl) ?_
 repeat (go_big_quiet_step (first | exact gw_quiet (HSUB.out _ (bl))))
 refine wpQuiet_nil ?_
 rintro W3 ⟨p3,hW3⟩
 have hb3:Below w.heap.size w W3:=by rw [hW3]; (repeat (first | exact Below.refl _ _ | refine Below.drew ?_ | (refine below_gw' ?_ (by first | omega | (simp [go_sem]; done) | (simp [go_sem]; omega)) _) | (refine Below.alloc ?_ (by first | omega | (simp [go_sem]; done) | (simp [go_sem]; omega)) _) | (refine Below.setCell ?_ (by first | omega | (simp [go_sem]; done) | (simp [go_sem]; omega)) _)))
 have hbox:W3.heap[w.heap.size]? = some (.cells #[.int .i64 1,.int .i64 7,.int .i64 0] 172 (0,0)):=by
  rw [hW3]
  exact blk_below (blk_new w _) (below_gw _ p3) (by rw [World.size_alloc]; omega)
 clear hW3 p3
 have HW3:=Hh (HW.out.below hb3)
 have HB3:=Hh hb3
 have HBOX:=Hh hbox
 clear hb3 hbox
 obtain ⟨t0',t1',s0',s1'⟩:=cells2 HW3.out.blk
 have hbl3:=blk_lt HW3.out.blk
 go_wp2_with fail
 (with_reducible refine (HADD.out _ HB3.out).mono ?_)
 rintro e w4 ⟨rfl,hb4⟩
 have HW4:=Hh (HW3.out.below hb4)
 have HBOX4:=Hh (blk_below HBOX.out hb4 (blk_lt HBOX.out))
 have HB4:=Hh (HB3.out.trans (hb4.mono HB3.out.size))
 clear hb4 t0' t1' s0' s1' hbl3
 obtain ⟨t0,t1,s0,s1⟩:=cells2 HW4.out.blk
 have hbl4:=blk_lt HW4.out.blk
 go_wp2_with fail
 go_end0
 exact ⟨⟨_,rfl⟩,⟨_,HW4.out⟩,HB4.out.mono HNW.out⟩
set_option maxRecDepth 100000 in
set_option maxHeartbeats 4000000 in
theorem acc_cons (m:List UInt8) (g o c:Nat) (x:Op3) (b N:Nat) (w:World) (hT:TabsA w) (hW:WrAt w b N m (.slice (some ⟨g,o,none⟩) 1 c) [x]) (hN:N≤b) (hNw:N≤w.heap.size) (hm:decide (m∈([[83,85,66],[65,78,68],[88,79,82],[79,82],[67,80]]:List (List UInt8)))=false) (hm2:decide (m∈([[65,68,68],[65,68,67],[83,66,67]]:List (List UInt8)))=true) :
 Calls Tryz.prog 91 #[.pointer (some ⟨b,0,none⟩)] w fun e w'=>(∃ u,e=.returned u)∧(∃ v',WrAt w' b N m v' [(1,7,0),x])∧Below N w w':=by
 have hsub:=fun W (hb:Below w.heap.size w W)=>sub_any m W (hT.below hb)
 rw [hm] at hsub
 have HSUB:=Hh hsub; clear hsub hm
 have hadd:=fun W (hb:Below w.heap.size w W)=>add_any m W (hT.below hb)
 rw [hm2] at hadd
 have HADD:=Hh hadd; clear hadd hm2
 have HW:=Hh hW
 have HNN:=Hh hN; have HNW:=Hh hNw
 obtain ⟨t0,t1,s0,s1⟩:=cells2 hW.blk
 have hbl:=blk_lt hW.blk
 obtain ⟨_,_,hv,hcc,hh⟩:=WRow.op hW.row
 cases hv
 obtain ⟨_,_,he,hg0,hg1,hh⟩:=hh (by simp)
 cases he
 obtain ⟨k0,k1,k2,f0,f1,f2⟩:=hh 0 x rfl
 simp only [Nat.zero_mul,Nat.add_zero] at k0 k1 k2 f0 f1 f2
 clear hh
 clear hW hT hN hNw
 go_enter Tryz.func91,Tryz.ntmps91
 go_wp2_with fail
 refine wp_region_gw (by kernel_rfl) (by kernel_rfl) ?_
 repeat (go_big_quiet_step (first | exact gw_quiet (HSUB.out _ (bl))))
 refine wpQuiet_nil ?_
 rintro W3 ⟨p3,hW3⟩
 have hb3:Below w.heap.size w W3:=by rw [hW3]; (repeat (first | exact Below.refl _ _ | refine Below.drew ?_ | (refine below_gw' ?_ (by first | omega | (simp [go_sem]; done) | (simp [go_sem]; omega)) _) | (refine Below.alloc ?_ (by first | omega | (simp [go_sem]; done) | (simp [go_sem]; omega)) _) | (refine Below.setCell ?_ (by first | omega | (simp [go_sem]; done) | (simp [go_sem]; omega)) _)))
 have hbox:W3.heap[w.heap.size]? = some (.cells #[.int .i64 1,.int .i64 7,.int .i64 0] 172 (0,0)):=by
  rw [hW3]
  exact blk_below (blk_new w _) (below_gw _ p3) (by rw [World.size_alloc]; omega)
 clear hW3 p3
 have HW3:=Hh (HW.out.below hb3)
 have HB3:=Hh hb3
 have HBOX:=Hh hbox
 clear hb3 hbox
 obtain ⟨t0',t1',s0',s1'⟩:=cells2 HW3.out.blk
 have hbl3:=blk_lt HW3.out.blk
 go_wp2_with fail
 (with_reducible refine (HADD.out _ HB3.out).mono ?_)
 rintro e w4 ⟨rfl,hb4⟩
 have HW4:=Hh (HW3.out.below hb4)
 have HBOX4:=Hh (blk_below HBOX.out hb4 (blk_lt HBOX.out))
 have HB4:=Hh (HB3.out.trans (hb4.mono HB3.out.size))
 clear hb4 t0' t1' s0' s1' hbl3
 obtain ⟨t0,t1,s0,s1⟩:=cells2 HW4.out.blk
 have hbl4:=blk_lt HW4.out.blk
 obtain ⟨_,_,hv,_,hh⟩:=WRow.op HW4.out.row
 cases hv
 obtain ⟨_,_,he,hg2,hg3,hh⟩:=hh (by simp)
 cases he
 obtain ⟨q0,q1,q2,_,_,_⟩:=hh 0 x rfl
 simp only [Nat.zero_mul,Nat.add_zero] at q0 q1 q2
 obtain ⟨z0,z1,z2,_,_,_⟩:=cells3 HBOX4.out
 have hlx:w.heap.size<w4.heap.size:=blk_lt HBOX4.out
 clear hh
 obtain ⟨B,hB⟩:∃ B,w.heap.size=B:=⟨_,rfl⟩
 obtain ⟨x0,x1,x2⟩:=x
 dsimp only at q0 q1 q2
 rw [hB] at z0 z1 z2 hlx ⊢
 go_wp2_with fail
 go_region
 all_goals
  obtain ⟨hwr,hbe⟩:=acc_fin HW4.out HB4.out HNN.out HNW.out x0 x1 x2 _ rfl
  have HWR:=Hh hwr; have HBE:=Hh hbe
  clear hwr hbe
  go_wp2_with fail
  go_end0
  exact ⟨⟨_,rfl⟩,⟨_,HWR.out.below ⟨rfl,rfl,rfl,Nat.le_refl _,fun _ _=>rfl⟩⟩,HBE.out.trans ⟨rfl,rfl,rfl,Nat.le_refl _,fun _ _=>rfl⟩⟩
set_option maxRecDepth 100000 in
set_option maxHeartbeats 4000000 in
theorem acc_f0 (m:List UInt8) (a:Option Addr) (c:Nat) (x0 x1 x2:Int) (y:Op3) (b N:Nat) (w:World) (hT:TabsA w) (hW:WrAt w b N m (.slice a 2 c) [(x0,x1,x2),y]) (hN:N≤b) (hNw:N≤w.heap.size) (hm:decide (m∈([[83,85,66],[65,78,68],[88,79,82],[79,82],[67,80]]:List (List UInt8)))=true) (hm2:decide (m∈([[65,68,68],[65,68,67],[83,66,67]]:List (List UInt8)))=false) (hx:¬ x0=1) :
 Calls Tryz.prog 91 #[.pointer (some ⟨b,0,none⟩)] w fun e w'=>(∃ u,e=.returned u)∧(∃ v',WrAt w' b N m v' [(x0,x1,x2),y])∧Below N w w':=by
 have hsub:=fun W (hb:Below w.heap.size w W)=>sub_any m W (hT.below hb)
 rw [hm] at hsub
 have HSUB:=Hh hsub; clear hsub hm
 have hadd:=fun W (hb:Below w.heap.size w W)=>add_any m W (hT.below hb)
 rw [hm2] at hadd
 have HADD:=Hh hadd; clear hadd hm2
 have HW:=Hh hW
 have HNN:=Hh hN; have HNW:=Hh hNw
 obtain ⟨t0,t1,s0,s1⟩:=cells2 hW.blk
 have hbl:=blk_lt hW.blk
 obtain ⟨_,_,hv,hcc,hh⟩:=WRow.op hW.row
 cases hv
 obtain ⟨g,o,rfl,hg0,hg1,hh⟩:=hh (by simp)
 obtain ⟨k0,k1,k2,f0,f1,f2⟩:=hh 0 (x0,x1,x2) rfl
 simp only [Nat.zero_mul,Nat.add_zero] at k0 k1 k2 f0 f1 f2
 clear hh
 clear hW hT hN hNw
 go_enter Tryz.func91,Tryz.ntmps91
 go_wp2_with fail
 refine wp_region_gw (by kernel_rfl) (by kernel_rfl) ?_
 repeat (go_big_quiet_step (first | exact gw_quiet (HSUB.out _ (bl))))
 refine wpQuiet_nil ?_
 rintro W3 ⟨p3,hW3⟩
 have hb3:Below w.heap.size w W3:=by rw [hW3]; (repeat (first | exact Below.refl _ _ | refine Below.drew ?_ | (refine below_gw' ?_ (by first | omega | (simp [go_sem]; done) | (simp [go_sem]; omega)) _) | (refine Below.alloc ?_ (by first | omega | (simp [go_sem]; done) | (simp [go_sem]; omega)) _) | (refine Below.setCell ?_ (by first | omega | (simp [go_sem]; done) | (simp [go_sem]; omega)) _)))
 have hbox:W3.heap[w.heap.size]? = some (.cells #[.int .i64 1,.int .i64 7,.int .i64 0] 172 (0,0)):=by
  rw [hW3]
  exact blk_below (blk_new w _) (below_gw _ p3) (by rw [World.size_alloc]; omega)
 clear hW3 p3
 have HW3:=Hh (HW.out.below hb3)
 have HB3:=Hh hb3
 have HBOX:=Hh hbox
 clear hb3 hbox
 obtain ⟨t0',t1',s0',s1'⟩:=cells2 HW3.out.blk
 have hbl3:=blk_lt HW3.out.blk
 go_wp2_with fail
 (with_reducible refine (HADD.out _ HB3.out).mono ?_)
 rintro e w4 ⟨rfl,hb4⟩
 have HW4:=Hh (HW3.out.below hb4)
 have HBOX4:=Hh (blk_below HBOX.out hb4 (blk_lt HBOX.out))
 have HB4:=Hh (HB3.out.trans (hb4.mono HB3.out.size))
 clear hb4 t0' t1' s0' s1' hbl3
 obtain ⟨t0,t1,s0,s1⟩:=cells2 HW4.out.blk
 have hbl4:=blk_lt HW4.out.blk
 go_wp2_with fail
 go_end0
 exact ⟨⟨_,rfl⟩,⟨_,HW4.out⟩,HB4.out.mono HNW.out⟩
set_option maxRecDepth 100000 in
set_option maxHeartbeats 4000000 in
theorem acc_f1 (m:List UInt8) (a:Option Addr) (c:Nat) (x0 x1 x2:Int) (y:Op3) (b N:Nat) (w:World) (hT:TabsA w) (hW:WrAt w b N m (.slice a 2 c) [(x0,x1,x2),y]) (hN:N≤b) (hNw:N≤w.heap.size) (hm:decide (m∈([[83,85,66],[65,78,68],[88,79,82],[79,82],[67,80]]:List (List UInt8)))=true) (hm2:decide (m∈([[65,68,68],[65,68,67],[83,66,67]]:List (List UInt8)))=false) (hx0:x0=1) (hx:¬ x1=7) :
 Calls Tryz.prog 91 #[.pointer (some ⟨b,0,none⟩)] w fun e w'=>(∃ u,e=.returned u)∧(∃ v',WrAt w' b N m v' [(x0,x1,x2),y])∧Below N w w':=by
 have hsub:=fun W (hb:Below w.heap.size w W)=>sub_any m W (hT.below hb)
 rw [hm] at hsub
 have HSUB:=Hh hsub; clear hsub hm
 have hadd:=fun W (hb:Below w.heap.size w W)=>add_any m W (hT.below hb)
 rw [hm2] at hadd
 have HADD:=Hh hadd; clear hadd hm2
 have HW:=Hh hW
 have HNN:=Hh hN; have HNW:=Hh hNw
 obtain ⟨t0,t1,s0,s1⟩:=cells2 hW.blk
 have hbl:=blk_lt hW.blk
 obtain ⟨_,_,hv,hcc,hh⟩:=WRow.op hW.row
 cases hv
 obtain ⟨g,o,rfl,hg0,hg1,hh⟩:=hh (by simp)
 obtain ⟨k0,k1,k2,f0,f1,f2⟩:=hh 0 (x0,x1,x2) rfl
 simp only [Nat.zero_mul,Nat.add_zero] at k0 k1 k2 f0 f1 f2
 clear hh
 subst hx0
 clear hW hT hN hNw
 go_enter Tryz.func91,Tryz.ntmps91
 go_wp2_with fail
 refine wp_region_gw (by kernel_rfl) (by kernel_rfl) ?_
 repeat (go_big_quiet_step (first | exact gw_quiet (HSUB.out _ (bl))))
 refine wpQuiet_nil ?_
 rintro W3 ⟨p3,hW3⟩
 have hb3:Below w.heap.size w W3:=by rw [hW3]; (repeat (first | exact Below.refl _ _ | refine Below.drew ?_ | (refine below_gw' ?_ (by first | omega | (simp [go_sem]; done) | (simp [go_sem]; omega)) _) | (refine Below.alloc ?_ (by first | omega | (simp [go_sem]; done) | (simp [go_sem]; omega)) _) | (refine Below.setCell ?_ (by first | omega | (simp [go_sem]; done) | (simp [go_sem]; omega)) _)))
 have hbox:W3.heap[w.heap.size]? = some (.cells #[.int .i64 1,.int .i64 7,.int .i64 0] 172 (0,0)):=by
  rw [hW3]
  exact blk_below (blk_new w _) (below_gw _ p3) (by rw [World.size_alloc]; omega)
 clear hW3 p3
 have HW3:=Hh (HW.out.below hb3)
 have HB3:=Hh hb3
 have HBOX:=Hh hbox
 clear hb3 hbox
 obtain ⟨t0',t1',s0',s1'⟩:=cells2 HW3.out.blk
 have hbl3:=blk_lt HW3.out.blk
 go_wp2_with fail
 (with_reducible refine (HADD.out _ HB3.out).mono ?_)
 rintro e w4 ⟨rfl,hb4⟩
 have HW4:=Hh (HW3.out.below hb4)
 have HBOX4:=Hh (blk_below HBOX.out hb4 (blk_lt HBOX.out))
 have HB4:=Hh (HB3.out.trans (hb4.mono HB3.out.size))
 clear hb4 t0' t1' s0' s1' hbl3
 obtain ⟨t0,t1,s0,s1⟩:=cells2 HW4.out.blk
 have hbl4:=blk_lt HW4.out.blk
 go_wp2_with fail
 go_end0
 exact ⟨⟨_,rfl⟩,⟨_,HW4.out⟩,HB4.out.mono HNW.out⟩
set_option maxRecDepth 100000 in
set_option maxHeartbeats 4000000 in
theorem acc_f2 (m:List UInt8) (a:Option Addr) (c:Nat) (x0 x1 x2:Int) (y:Op3) (b N:Nat) (w:World) (hT:TabsA w) (hW:WrAt w b N m (.slice a 2 c) [(x0,x1,x2),y]) (hN:N≤b) (hNw:N≤w.heap.size) (hm:decide (m∈([[83,85,66],[65,78,68],[88,79,82],[79,82],[67,80]]:List (List UInt8)))=true) (hm2:decide (m∈([[65,68,68],[65,68,67],[83,66,67]]:List (List UInt8)))=false) (hx0:x0=1) (hx1:x1=7) (hx:¬ x2=0) :
 Calls Tryz.prog 91 #[.pointer (some ⟨b,0,none⟩)] w fun e w'=>(∃ u,e=.returned u)∧(∃ v',WrAt w' b N m v' [(x0,x1,x2),y])∧Below N w w':=by
 have hsub:=fun W (hb:Below w.heap.size w W)=>sub_any m W (hT.below hb)
 rw [hm] at hsub
 have HSUB:=Hh hsub; clear hsub hm
 have hadd:=fun W (hb:Below w.heap.size w W)=>add_any m W (hT.below hb)
 rw [hm2] at hadd
 have HADD:=Hh hadd; clear hadd hm2
 have HW:=Hh hW
 have HNN:=Hh hN; have HNW:=Hh hNw
 obtain ⟨t0,t1,s0,s1⟩:=cells2 hW.blk
 have hbl:=blk_lt hW.blk
 obtain ⟨_,_,hv,hcc,hh⟩:=WRow.op hW.row
 cases hv
 obtain ⟨g,o,rfl,hg0,hg1,hh⟩:=hh (by simp)
 obtain ⟨k0,k1,k2,f0,f1,f2⟩:=hh 0 (x0,x1,x2) rfl
 simp only [Nat.zero_mul,Nat.add_zero] at k0 k1 k2 f0 f1 f2
 clear hh
 subst hx0 hx1
 clear hW hT hN hNw
 go_enter Tryz.func91,Tryz.ntmps91
 go_wp2_with fail
 refine wp_region_gw (by kernel_rfl) (by kernel_rfl) ?_
 repeat (go_big_quiet_step (first | exact gw_quiet (HSUB.out _ (bl))))
 refine wpQuiet_nil ?_
 rintro W3 ⟨p3,hW3⟩
 have hb3:Below w.heap.size w W3:=by rw [hW3]; (repeat (first | exact Below.refl _ _ | refine Below.drew ?_ | (refine below_gw' ?_ (by first | omega | (simp [go_sem]; done) | (simp [go_sem]; omega)) _) | (refine Below.alloc ?_ (by first | omega | (simp [go_sem]; done) | (simp [go_sem]; omega)) _) | (refine Below.setCell ?_ (by first | omega | (simp [go_sem]; done) | (simp [go_sem]; omega)) _)))
 have hbox:W3.heap[w.heap.size]? = some (.cells #[.int .i64 1,.int .i64 7,.int .i64 0] 172 (0,0)):=by
  rw [hW3]
  exact blk_below (blk_new w _) (below_gw _ p3) (by rw [World.size_alloc]; omega)
 clear hW3 p3
 have HW3:=Hh (HW.out.below hb3)
 have HB3:=Hh hb3
 have HBOX:=Hh hbox
 clear hb3 hbox
 obtain ⟨t0',t1',s0',s1'⟩:=cells2 HW3.out.blk
 have hbl3:=blk_lt HW3.out.blk
 go_wp2_with fail
 (with_reducible refine (HADD.out _ HB3.out).mono ?_)
 rintro e w4 ⟨rfl,hb4⟩
 have HW4:=Hh (HW3.out.below hb4)
 have HBOX4:=Hh (blk_below HBOX.out hb4 (blk_lt HBOX.out))
 have HB4:=Hh (HB3.out.trans (hb4.mono HB3.out.size))
 clear hb4 t0' t1' s0' s1' hbl3
 obtain ⟨t0,t1,s0,s1⟩:=cells2 HW4.out.blk
 have hbl4:=blk_lt HW4.out.blk
 go_wp2_with fail
 go_end0
 exact ⟨⟨_,rfl⟩,⟨_,HW4.out⟩,HB4.out.mono HNW.out⟩
theorem acc_apart (m:List UInt8) (h:m∈([[83,85,66],[65,78,68],[88,79,82],[79,82],[67,80]]:List (List UInt8))):¬ m∈([[65,68,68],[65,68,67],[83,66,67]]:List (List UInt8)):=by
 simp only [List.mem_cons,List.not_mem_nil,or_false] at h ⊢
 rcases h with rfl | rfl | rfl | rfl | rfl<;>decide
theorem acc_any (m:List UInt8) (v:Value) (l:List Op3) (b N:Nat) (w:World) (hT:TabsA w) (hW:WrAt w b N m v l) (hN:N≤b) (hNw:N≤w.heap.size) :
 Calls Tryz.prog 91 #[.pointer (some ⟨b,0,none⟩)] w fun e w'=>(∃ u,e=.returned u)∧(∃ v',WrAt w' b N m v' (accP (m,l)))∧Below N w w':=by
 have hrow:=hW.row
 obtain ⟨a,c,rfl,_,hh⟩:=hrow.op
 by_cases h1:m∈([[83,85,66],[65,78,68],[88,79,82],[79,82],[67,80]]:List (List UInt8))
 · have h2:=acc_apart m h1
   by_cases hl:l.length=2
   · obtain ⟨⟨x0,x1,x2⟩,y,rfl⟩:∃ x y,l=[x,y]:=by
      match l,hl with
      | [x,y],_=>exact ⟨x,y,rfl⟩
     have hA:∀ h:(x0,x1,x2)≠((1,7,0):Op3),accP (m,[(x0,x1,x2),y])=[(x0,x1,x2),y]:=fun h=>by
      unfold accP
      dsimp only
      rw [if_neg (fun q=>h (Option.some.inj q.2.2)),if_neg (fun q=>h2 q.1)]
     by_cases e0:x0=1
     · by_cases e1:x1=7
       · by_cases e2:x2=0
         · subst e0 e1 e2
           have:accP (m,[(1,7,0),y])=[y]:=by unfold accP; dsimp only; rw [if_pos ⟨h1,rfl,rfl⟩]; rfl
           rw [this]
           obtain ⟨g,o,rfl,_⟩:=hh (by simp)
           exact acc_tail m g o c y b N w hT hW hN hNw h1
         · rw [hA (by simp [e2])]
           exact acc_f2 m a c x0 x1 x2 y b N w hT hW hN hNw (decide_eq_true h1) (decide_eq_false h2) e0 e1 e2
       · rw [hA (by simp [e1])]
         exact acc_f1 m a c x0 x1 x2 y b N w hT hW hN hNw (decide_eq_true h1) (decide_eq_false h2) e0 e1
     · rw [hA (by simp [e0])]
       exact acc_f0 m a c x0 x1 x2 y b N w hT hW hN hNw (decide_eq_true h1) (decide_eq_false h2) e0
   · have:accP (m,l)=l:=by
      unfold accP
      dsimp only
      rw [if_neg (fun q=>hl q.2.1),if_neg (fun q=>h2 q.1)]
     rw [this]
     exact acc_n3 m a c l b N w hT hW hN hNw (decide_eq_true h1) (decide_eq_false h2) (by rw [beq_eq_false_iff_ne]; omega)
 · by_cases h2:m∈([[65,68,68],[65,68,67],[83,66,67]]:List (List UInt8))
   · by_cases hl:l.length=1
     · obtain ⟨x,rfl⟩:∃ x,l=[x]:=List.length_eq_one_iff.1 hl
       have:accP (m,[x])=[(1,7,0),x]:=by unfold accP; dsimp only; rw [if_neg (fun q=>h1 q.1),if_pos ⟨h2,rfl⟩]
       rw [this]
       obtain ⟨g,o,rfl,_⟩:=hh (by simp)
       exact acc_cons m g o c x b N w hT hW hN hNw (decide_eq_false h1) (decide_eq_true h2)
     · have:accP (m,l)=l:=by
        unfold accP
        dsimp only
        rw [if_neg (fun q=>h1 q.1),if_neg (fun q=>hl q.2)]
       rw [this]
       exact acc_n2 m a c l b N w hT hW hN hNw (decide_eq_false h1) (decide_eq_true h2) (by rw [beq_eq_false_iff_ne]; omega)
   · have:accP (m,l)=l:=by
      unfold accP
      dsimp only
      rw [if_neg (fun q=>h1 q.1),if_neg (fun q=>h2 q.1)]
     rw [this]
     exact acc_n1 m a c l b N w hT hW hN hNw (decide_eq_false h1) (decide_eq_false h2)
theorem Kb.drewK {b:Nat} {u w:World} (h:Kb b u w):Kb b u w.drew:=⟨h.os,h.tape,h.output,h.size,h.block⟩
theorem rev_fin {w:World} {g o c N:Nat} {x0 x1 x2 y0 y1 y2:Int} (hr:WRow w N (.slice (some ⟨g,o,none⟩) 2 c) 2 (opc [(x0,x1,x2),(y0,y1,y2)])) (X:World)
 (hX:X=(((((w.setCell ⟨g,o,none⟩ (.int .i64 y0)).setCell ⟨g,o+1,none⟩ (.int .i64 y1)).setCell ⟨g,o+2,none⟩ (.int .i64 y2)).setCell ⟨g,o+3,none⟩ (.int .i64 x0)).setCell ⟨g,o+3+1,none⟩ (.int .i64 x1)).setCell ⟨g,o+3+2,none⟩ (.int .i64 x2)) :
 WRow X N (.slice (some ⟨g,o,none⟩) 2 c) 2 (opc [(y0,y1,y2),(x0,x1,x2)])∧Kb g w X:=by
 subst hX
 refine ⟨?_,((((((Kb.refl g w).setCell o _).setCell (o+1) _).setCell (o+2) _).setCell (o+3) _).setCell (o+3+1) _).setCell (o+3+2) _⟩
 have h0:=hr.set (i:=0) (u:=.int .i64 y0) (by simp [opc])
 have h1:=h0.set (i:=1) (u:=.int .i64 y1) (by simp [opc])
 have h2:=h1.set (i:=2) (u:=.int .i64 y2) (by simp [opc])
 have h3:=h2.set (i:=3) (u:=.int .i64 x0) (by simp [opc])
 have h4:=h3.set (i:=4) (u:=.int .i64 x1) (by simp [opc])
 have h5:=h4.set (i:=5) (u:=.int .i64 x2) (by simp [opc])
 simp only [opc,List.flatMap_cons,List.flatMap_nil,List.cons_append,List.nil_append,List.append_nil,List.set_cons_zero,List.set_cons_succ,Nat.add_zero] at h5 ⊢
 exact h5
set_option maxRecDepth 100000 in
set_option maxHeartbeats 200000 in
theorem rev_two (g o c:Nat) (x0 x1 x2 y0 y1 y2:Int) (N:Nat) (w:World) (hr:WRow w N (.slice (some ⟨g,o,none⟩) 2 c) 2 (opc [(x0,x1,x2),(y0,y1,y2)])) :
 Calls Tryz.prog 169 #[.slice (some ⟨g,o,none⟩) 2 c] w fun e w'=>(∃ u,e=.returned u)∧WRow w' N (.slice (some ⟨g,o,none⟩) 2 c) 2 (opc [(y0,y1,y2),(x0,x1,x2)])∧Kb g w w':=by
 have HR:=Hh hr
 obtain ⟨_,_,hv,hcc,hh⟩:=WRow.op (l:=[(x0,x1,x2),(y0,y1,y2)]) hr
 cases hv
 obtain ⟨_,_,he,hg0,hg1,hh⟩:=hh (by simp)
 cases he
 obtain ⟨k0,k1,k2,f0,f1,f2⟩:=hh 0 _ rfl
 obtain ⟨l0,l1,l2,e0,e1,e2⟩:=hh 1 _ rfl
 simp only [Nat.zero_mul,Nat.add_zero,Nat.one_mul] at k0 k1 k2 f0 f1 f2 l0 l1 l2 e0 e1 e2
 dsimp only [List.length_cons,List.length_nil] at hcc
 have hcc2:(2:Int)≤(c:Int):=by omega
 clear hh hr
 go_enter Tryz.func169,Tryz.ntmps169
 go_wp2_with fail
 go_loopw [2,3] (fun i j wr=>(i=.int .i64 0∧j=.int .i64 1∧Hid (wr=w))∨(i=.int .i64 1∧j=.int .i64 0∧Hid (WRow wr N (.slice (some ⟨g,o,none⟩) 2 c) 2 (opc [(y0,y1,y2),(x0,x1,x2)]))∧Hid (Kb g w wr))) (fun i _ _=>1 - (intOf i).toNat)
 case atStart=>exact .inl ⟨rfl,rfl,Hh rfl⟩
 case round =>
  rcases hrel with ⟨rfl,rfl,HWE⟩ | ⟨rfl,rfl,HR2,HK2⟩
  · obtain rfl:=HWE.out
    go_wp2_with fail
    go_region
    all_goals
     obtain ⟨hwr,hkb⟩:=rev_fin HR.out _ rfl
     have HWR:=Hh hwr
     have HKB:=Hh hkb
     clear hwr hkb
     go_wp2_with fail
     go_roundw
     case rel=>exact .inr ⟨by go_num,by go_num,Hh (WRow.below HWR.out (Below.refl _ _).drew),Hh (Kb.drewK HKB.out)⟩
     case measure=>simp [intOf]
  · go_wp2_with fail
    go_end0
    exact ⟨⟨_,rfl⟩,HR2.out,HK2.out⟩
set_option maxRecDepth 100000 in
set_option maxHeartbeats 4000000 in
theorem exch_no (m:List UInt8) (v:Value) (l:List Op3) (b N:Nat) (w:World) (hW:WrAt w b N m v l) (hNw:N≤w.heap.size) (hm:m≠[69,88]) :
 Calls Tryz.prog 92 #[.pointer (some ⟨b,0,none⟩)] w fun e w'=>(∃ u,e=.returned u)∧(∃ v',WrAt w' b N m v' l)∧Below N w w':=by
 have HW:=Hh hW
 have HNW:=Hh hNw
 have hm2:(m == [69,88])=false:=by simpa using hm
 have HM:=Hh hm; clear hm
 obtain ⟨t0,t1,s0,s1⟩:=cells2 hW.blk
 have hbl:=blk_lt hW.blk
 obtain ⟨a,c,rfl,hcc,_⟩:=WRow.op hW.row
 clear hW hNw
 go_enter Tryz.func92,Tryz.ntmps92
 go_wp2_with fail
 obtain ⟨W,hW0⟩:∃ W,((w.alloc (.cells #[.int .i64 3,.int .i64 2,.int .i64 0] 172)).alloc (.cells #[.int .i64 3,.int .i64 1,.int .i64 0] 172))=W:=⟨_,rfl⟩
 have hbW:Below w.heap.size w W:=by rw [←hW0]; exact ((Below.refl _ _).alloc (Nat.le_refl _) _).alloc (by simp) _
 have hb0:W.heap[w.heap.size]? = some (.cells #[.int .i64 3,.int .i64 2,.int .i64 0] 172 (0,0)):=by rw [←hW0]; exact blk_alloc (blk_new _ _)
 have hb1:W.heap[w.heap.size+1]? = some (.cells #[.int .i64 3,.int .i64 1,.int .i64 0] 172 (0,0)):=by rw [←hW0]; have:=blk_new (w.alloc (.cells #[.int .i64 3,.int .i64 2,.int .i64 0] 172)) (.cells #[.int .i64 3,.int .i64 1,.int .i64 0] 172); rwa [World.size_alloc] at this
 rw [hW0]
 clear hW0
 have HWW:=Hh (HW.out.below hbW)
 clear t0 t1 s0 s1 hbl
 obtain ⟨t0,t1,s0,s1⟩:=cells2 HWW.out.blk
 have hbl:=blk_lt HWW.out.blk
 have HBW:=Hh hbW
 have HB0:=Hh hb0
 have HB1:=Hh hb1
 clear hbW hb0 hb1
 refine wp_region_gw (by kernel_rfl) (by kernel_rfl) ?_
 repeat (go_big_quiet_step (fail))
 refine wpQuiet_nil ?_
 rintro W3 ⟨p3,hW3⟩
 have hb3:Below W.heap.size W W3:=by rw [hW3]; (repeat (first | exact Below.refl _ _ | refine Below.drew ?_ | (refine below_gw' ?_ (by first | omega | (simp [go_sem]; done) | (simp [go_sem]; omega)) _) | (refine Below.alloc ?_ (by first | omega | (simp [go_sem]; done) | (simp [go_sem]; omega)) _) | (refine Below.setCell ?_ (by first | omega | (simp [go_sem]; done) | (simp [go_sem]; omega)) _)))
 clear hW3 p3
 have HW3:=Hh (HWW.out.below hb3)
 have HB3:=Hh (HBW.out.trans (hb3.mono HBW.out.size))
 clear hb3
 go_wp2_with fail
 go_end0
 exact ⟨⟨_,rfl⟩,⟨_,HW3.out⟩,HB3.out.mono HNW.out⟩
theorem row_struct (w:World) (xs:List Value) (n:Nat) (T:TypeId):Row (w.alloc (.cells xs.toArray T)) (.slice (some ⟨w.heap.size,0,none⟩) n n) n xs:=by
 refine ⟨_,_,rfl,Nat.le_refl _,fun _=>⟨w.heap.size,0,rfl,by rw [World.size_alloc]; omega,fun j hj=>?_⟩⟩
 rw [Nat.zero_add,blk_cell (blk_new w _)]
 simp
set_option maxRecDepth 100000 in
set_option maxHeartbeats 4000000 in
theorem exch_ex (v:Value) (l:List Op3) (b N:Nat) (w:World) (hW:WrAt w b N [69,88] v l) (hN:N≤b) (hNw:N≤w.heap.size) (hl:l.length≤1000) (D:Bool) (hD:decide (l=[(3,2,0),(3,1,0)])=D) :
 Calls Tryz.prog 92 #[.pointer (some ⟨b,0,none⟩)] w fun e w'=>(∃ u,e=.returned u)∧(∃ v',WrAt w' b N [69,88] v' (if D=true then [(3,1,0),(3,2,0)] else l))∧Below N w w':=by
 have heq:=fun v2 X (hb:Below w.heap.size w X) h2=>equalOp_any v v2 l [(3,2,0),(3,1,0)] X (hW.row.row.below hb) h2 (by omega) (by decide)
 rw [hD] at heq
 have HEQ:=Hh heq; clear heq
 have HDD:=Hh hD; clear hD
 have HW:=Hh hW
 have HN:=Hh hN
 have HNW:=Hh hNw
 obtain ⟨t0,t1,s0,s1⟩:=cells2 hW.blk
 have hbl:=blk_lt hW.blk
 obtain ⟨a,c,rfl,hcc,_⟩:=WRow.op hW.row
 clear hW hNw hN
 go_enter Tryz.func92,Tryz.ntmps92
 go_wp2_with fail
 obtain ⟨W,hW0⟩:∃ W,((w.alloc (.cells #[.int .i64 3,.int .i64 2,.int .i64 0] 172)).alloc (.cells #[.int .i64 3,.int .i64 1,.int .i64 0] 172))=W:=⟨_,rfl⟩
 have hbW:Below w.heap.size w W:=by rw [←hW0]; exact ((Below.refl _ _).alloc (Nat.le_refl _) _).alloc (by simp) _
 have hb0:W.heap[w.heap.size]? = some (.cells #[.int .i64 3,.int .i64 2,.int .i64 0] 172 (0,0)):=by rw [←hW0]; exact blk_alloc (blk_new _ _)
 have hb1:W.heap[w.heap.size+1]? = some (.cells #[.int .i64 3,.int .i64 1,.int .i64 0] 172 (0,0)):=by rw [←hW0]; have:=blk_new (w.alloc (.cells #[.int .i64 3,.int .i64 2,.int .i64 0] 172)) (.cells #[.int .i64 3,.int .i64 1,.int .i64 0] 172); rwa [World.size_alloc] at this
 rw [hW0]
 clear hW0
 have HWW:=Hh (HW.out.below hbW)
 clear t0 t1 s0 s1 hbl
 obtain ⟨t0,t1,s0,s1⟩:=cells2 HWW.out.blk
 have hbl:=blk_lt HWW.out.blk
 have HBW:=Hh hbW
 have HB0:=Hh hb0
 have HB1:=Hh hb1
 clear hbW hb0 hb1
 obtain ⟨z0,z1,z2,_,_,_⟩:=cells3 HB0.out
 obtain ⟨y0,y1,y2,_,_,_⟩:=cells3 HB1.out
 have hlz:=blk_lt HB0.out
 have hly:=blk_lt HB1.out
 have hK:∀ X,Below W.heap.size W X→X.cell? ⟨b,0,none⟩=some (.string ⟨#[69,88]⟩)∧X.cell? ⟨b,1,none⟩=some (.slice a l.length c)∧X.cell? ⟨w.heap.size,0,none⟩=some (.int .i64 3)∧X.cell? ⟨w.heap.size,1,none⟩=some (.int .i64 2)∧X.cell? ⟨w.heap.size,2,none⟩=some (.int .i64 0)∧X.cell? ⟨w.heap.size+1,0,none⟩=some (.int .i64 3)∧X.cell? ⟨w.heap.size+1,1,none⟩=some (.int .i64 1)∧X.cell? ⟨w.heap.size+1,2,none⟩=some (.int .i64 0):=fun X hb=>⟨(hb.cell (p:=⟨b,0,none⟩) hbl).trans t0,(hb.cell (p:=⟨b,1,none⟩) hbl).trans t1,(hb.cell (p:=⟨w.heap.size,0,none⟩) hlz).trans z0,(hb.cell (p:=⟨w.heap.size,1,none⟩) hlz).trans z1,(hb.cell (p:=⟨w.heap.size,2,none⟩) hlz).trans z2,(hb.cell (p:=⟨w.heap.size+1,0,none⟩) hly).trans y0,(hb.cell (p:=⟨w.heap.size+1,1,none⟩) hly).trans y1,(hb.cell (p:=⟨w.heap.size+1,2,none⟩) hly).trans y2⟩
 have hd:Below W.heap.size W ((W.alloc (.cells #[.int .i64 3,.int .i64 2,.int .i64 0,.int .i64 3,.int .i64 1,.int .i64 0] 172)).drew):=bl
 have hro:Row ((W.alloc (.cells #[.int .i64 3,.int .i64 2,.int .i64 0,.int .i64 3,.int .i64 1,.int .i64 0] 172)).drew) (.slice (some ⟨W.heap.size,0,none⟩) 2 2) [((3,2,0):Op3),(3,1,0)].length (opc [(3,2,0),(3,1,0)]):=(row_struct W (opc [(3,2,0),(3,1,0)]) 2 _).below ⟨rfl,rfl,rfl,Nat.le_refl _,fun _ _=>rfl⟩
 have hcall:=HEQ.out _ _ (HBW.out.trans (hd.mono HBW.out.size)) hro
 have K1:=hK W (Below.refl _ _)
 have K3:=hK _ hd
 have HK:=Hh hK; clear hK
 go_region_held3 (fun X=>X.cell? ⟨b,0,none⟩=some (.string ⟨#[69,88]⟩)∧X.cell? ⟨b,1,none⟩=some (.slice a l.length c)∧X.cell? ⟨w.heap.size,0,none⟩=some (.int .i64 3)∧X.cell? ⟨w.heap.size,1,none⟩=some (.int .i64 2)∧X.cell? ⟨w.heap.size,2,none⟩=some (.int .i64 0)∧X.cell? ⟨w.heap.size+1,0,none⟩=some (.int .i64 3)∧X.cell? ⟨w.heap.size+1,1,none⟩=some (.int .i64 1)∧X.cell? ⟨w.heap.size+1,2,none⟩=some (.int .i64 0)) (first | exact K1 | exact K3 | exact K4) (first | (with_reducible refine hcall.mono ?_; rintro e w4 ⟨rfl,hb4⟩; have hbw4:Below W.heap.size W w4:=hd.trans (hb4.mono hd.size); have K4:=HK.out w4 hbw4))
 have HW4:=Hh (HWW.out.below hbw4)
 have HB4:=Hh (HBW.out.trans (hbw4.mono HBW.out.size))
 clear hbw4 hb4 hd hro hcall K1 K3 K4 t0 t1 s0 s1 z0 z1 z2 y0 y1 y2 hbl hlz hly
 obtain ⟨t0,t1,s0,s1⟩:=cells2 HW4.out.blk
 have hbl:=blk_lt HW4.out.blk
 cases D with
 | false =>
   go_wp2_with fail
   go_end0
   exact ⟨⟨_,rfl⟩,⟨_,HW4.out⟩,HB4.out.mono HNW.out⟩
 | true =>
   have hl2:l=[(3,2,0),(3,1,0)]:=of_decide_eq_true HDD.out
   subst hl2
   obtain ⟨_,_,hv,_,hh⟩:=WRow.op HW4.out.row
   cases hv
   obtain ⟨g,o,rfl,hg0,hg1,_⟩:=hh (by simp)
   have hrv:=rev_two g o c 3 2 0 3 1 0 N w4 HW4.out.row
   have HRV:=Hh hrv; clear hrv hh
   have HG:=Hh hg0
   have hgb:g≠b:=fun e=>HW4.out.ne (by rw [e]; rfl)
   have HGB:=Hh hgb; clear hgb hg0
   dsimp only [List.length_cons,List.length_nil] at t1 ⊢
   go_wp2_with fail
   (with_reducible refine HRV.out.mono ?_)
   rintro e w5 ⟨⟨u,rfl⟩,hr5,hk5⟩
   have HR5:=Hh hr5; have HK5:=Hh hk5
   clear hr5 hk5
   go_wp2_with fail
   go_end0
   refine ⟨⟨_,rfl⟩,⟨_,⟨(HK5.out.block b hbl (fun e=>HGB.out e.symm)).trans HW4.out.blk,HR5.out,HW4.out.ne⟩⟩,(HB4.out.mono HNW.out).trans ⟨HK5.out.os,HK5.out.tape,HK5.out.output,HK5.out.size,fun k hk=>HK5.out.block k (by have:=HB4.out.size; have:=HNW.out; omega) (by have:=HG.out; omega)⟩⟩
theorem own_lit3 (w:World) (base:Nat) (x y z:Value) (T:TypeId) (hb:base≤w.heap.size):(w.alloc (.cells #[x,y,z] T)).ownsRow base T 3 (.slice (some ⟨w.heap.size,0,none⟩) 1 1) 1 [x,y,z] :=
 ⟨rfl,.inr ⟨w.heap.size,1,#[x,y,z],rfl,hb,blk_new _ _,Nat.le_refl _,by unfold maxLen; decide,rfl,rfl⟩⟩
def ShRes (L:List Op3) (w:World) (e:Ending) (w':World):Prop:=∃ v,e=.returned v∧Row w' v L.length (opc L)∧Below w.heap.size w w'
set_option maxRecDepth 100000 in
set_option maxHeartbeats 4000000 in
theorem shapes_any (op:List UInt8) (a:Ar) (p:Option Addr) (w:World) (hs:a.text.size≤1000000):Calls Tryz.prog 110 #[.string ⟨op.toArray⟩,arV a p] w (ShRes (shapesP op a) w):=by
 obtain ⟨kd,tx,ex⟩:=a
 dsimp only at hs
 have hrg:=fun X=>argReg_any tx X (by unfold maxLen; omega)
 have hv:regV tx=(regP tx).getD 0:=rfl
 unfold shapesP
 dsimp only
 rw [hv]
 obtain ⟨q,hq⟩:∃ q,regP tx=q:=⟨_,rfl⟩
 rw [hq] at hrg ⊢
 have hrg2:∀ X,Calls Tryz.prog 181 #[.string tx] X fun e w'=>e=.returned (.tuple #[.int .i64 (q.getD 0),.bool q.isSome])∧Below X.heap.size X w':=by
  cases q with
  | none=>exact hrg
  | some r=>exact hrg
 obtain ⟨r,hr⟩:∃ r,q.getD 0=r:=⟨_,rfl⟩
 obtain ⟨t,ht⟩:∃ t,q.isSome=t:=⟨_,rfl⟩
 rw [hr,ht] at hrg2
 rw [hr]
 have HRG:=Hh hrg2
 clear hrg hrg2 hq hr ht hv
 unfold ShRes
 by_cases h1:kd=1
 · subst h1
   rw [if_pos rfl]
   have hnm:=fun X=>namedO_any tx X (by unfold maxLen; omega)
   generalize namedO tx=L at *
   have HNM:=Hh hnm; clear hnm
   go_enter Tryz.func110,Tryz.ntmps110
   go_wp2_with fail
   (with_reducible refine (HRG.out _).mono ?_)
   rintro e w2 ⟨rfl,hb2⟩
   have hbx:=box_kept hb2
   obtain ⟨k0,k1,_,_,_,_⟩:=cells3 hbx
   have hl2:=blk_lt hbx
   have HB2:=Hh (below_of_alloc hb2)
   clear hb2 hbx
   go_wp2_with fail
   (with_reducible refine (HNM.out _).mono ?_)
   rintro e w3 ⟨v3,rfl,hr3,hb3⟩
   have HR3:=Hh hr3
   have HB3:=Hh (HB2.out.trans ((below_of_alloc hb3).mono HB2.out.size))
   clear hb3 hr3
   go_wp2_with fail
   go_ret
   exact ⟨_,rfl,HR3.out,HB3.out⟩
 · have e1:(kd == 1)=false:=by simpa using h1
   rw [if_neg h1]
   by_cases h2:kd=2
   · subst h2
     rw [if_pos rfl]
     have hval:=fun X=>valid_any 5 r 0 X
     obtain ⟨z,hz⟩:∃ z,opValid 5 r 0=z:=⟨_,rfl⟩
     rw [hz] at hval ⊢
     have HV:=Hh hval; clear hval hz
     cases z with
     | false =>
       rw [if_neg (by decide)]
       go_enter Tryz.func110,Tryz.ntmps110
       go_wp2_with fail
       (with_reducible refine (HRG.out _).mono ?_)
       rintro e w2 ⟨rfl,hb2⟩
       have hbx:=box_kept hb2
       obtain ⟨k0,k1,_,_,_,_⟩:=cells3 hbx
       have hl2:=blk_lt hbx
       have HB2:=Hh (below_of_alloc hb2)
       clear hb2 hbx
       go_wp2_with fail
       (with_reducible refine (HV.out _).mono ?_)
       rintro e w3 ⟨rfl,hb3⟩
       have hbi:Below w2.heap.size w2 ((w2.alloc (.cells #[.int .i64 5,.int .i64 r,.int .i64 0] 172)).alloc (.cells #[.int .i64 4,.int .i64 r,.int .i64 0] 172)):=bl
       have hrow:=row_struct (w2.alloc (.cells #[.int .i64 5,.int .i64 r,.int .i64 0] 172)) [.int .i64 4,.int .i64 r,.int .i64 0] 1 172
       rw [World.size_alloc] at hrow
       have HR3:=Hh (show Row w3 _ [((4,r,0):Op3)].length (opc [(4,r,0)]) from hrow.below hb3)
       have HB3:=Hh (HB2.out.trans ((hbi.trans (hb3.mono hbi.size)).mono HB2.out.size))
       clear hb3 hbi hrow
       go_wp2_with fail
       go_ret
       exact ⟨_,rfl,HR3.out,HB3.out⟩
     | true =>
       obtain ⟨i0,hi,hz0,hz1,hz2⟩:=info_parts Tryz.infoOperand
       rw [if_pos rfl]
       go_enter Tryz.func110,Tryz.ntmps110
       go_wp2_with fail
       (with_reducible refine (HRG.out _).mono ?_)
       rintro e w2 ⟨rfl,hb2⟩
       have hbx:=box_kept hb2
       obtain ⟨k0,k1,_,_,_,_⟩:=cells3 hbx
       have hl2:=blk_lt hbx
       have HB2:=Hh (below_of_alloc hb2)
       clear hb2 hbx
       go_wp2_with fail
       (with_reducible refine (HV.out _).mono ?_)
       rintro e w3 ⟨rfl,hb3⟩
       have hbi:Below w2.heap.size w2 ((w2.alloc (.cells #[.int .i64 5,.int .i64 r,.int .i64 0] 172)).alloc (.cells #[.int .i64 4,.int .i64 r,.int .i64 0] 172)):=bl
       have hown:=own_lit3 (w2.alloc (.cells #[.int .i64 5,.int .i64 r,.int .i64 0] 172)) w2.heap.size (.int .i64 4) (.int .i64 r) (.int .i64 0) 172 (by rw [World.size_alloc]; omega)
       rw [World.size_alloc] at hown
       have hidx:=blk_below (blk_alloc (o':=.cells #[.int .i64 4,.int .i64 r,.int .i64 0] 172) (blk_new w2 (.cells #[.int .i64 5,.int .i64 r,.int .i64 0] 172))) hb3 (by simp; omega)
       obtain ⟨j0,j1,j2,_,_,_⟩:=cells3 hidx
       have hl3:=blk_lt hidx
       have HOWN:=Hh (owns_below hown hb3)
       have HBW:=Hh (hbi.trans (hb3.mono hbi.size))
       clear hb3 hbi hown hidx k0 k1
       go_wp2_with (at_builtin; refine wpList_append_own _ rfl _ _ 22 rfl w2.heap.size 172 i0 (.agg #[.int .i64 0,.int .i64 0,.int .i64 0]) 3 24 Tryz.underlying22 hi hz0 hz1 hz2 rfl (by decide) _ 1 _ rfl (HOWN.out.alloc _) ⟨w3.heap.size,0,none⟩ 1 1 [.int .i64 5,.int .i64 r,.int .i64 0] rfl rfl ?d1 ?d2 ?d3 ?d4 ?d5 ?_)
       case d1 =>
        have hnb:=blk_new w3 (.cells #[.int .i64 5,.int .i64 r,.int .i64 0] 172)
        intro k u hk
        rw [addr_add,Nat.zero_add,blk_cell hnb]
        simpa using hk
       case d2=>intro u hu; simp at hu; rcases hu with rfl | rfl | rfl<;>rfl
       case d3=>unfold maxLen; omega
       case d4=>omega
       case d5=>rw [World.size_alloc]; omega
       intro v4 w4 hown4 hgrow4 _
       have hal:Below w3.heap.size w3 (w3.alloc (.cells #[.int .i64 5,.int .i64 r,.int .i64 0] 172)):=(Below.refl _ _).alloc (Nat.le_refl _) _
       have hb4:Below w2.heap.size w2 w4:=(HBW.out.trans (hal.mono HBW.out.size)).grown hgrow4 (by rw [World.size_alloc]; have:=HBW.out.size; omega) (fun k hk=>(HOWN.out.lt k hk).1)
       have HR4:=Hh (show Row w4 v4 [((4,r,0):Op3),(5,r,0)].length (opc [(4,r,0),(5,r,0)]) from (WRow.of_owns hown4).row)
       have HB4:=Hh (HB2.out.trans (hb4.mono HB2.out.size))
       clear hal hb4 hown4 hgrow4
       go_wp2_with fail
       go_ret
       exact ⟨_,rfl,HR4.out,HB4.out⟩
   · have e2:(kd == 2)=false:=by simpa using h2
     rw [if_neg h2]
     have lit:∀ (X:World) (x y:Int),Row (X.alloc (.cells #[.int .i64 x,.int .i64 y,.int .i64 0] 172)) (.slice (some ⟨X.heap.size,0,none⟩) 1 1) [((x,y,0):Op3)].length (opc [(x,y,0)]):=fun X x y=>row_struct X [.int .i64 x,.int .i64 y,.int .i64 0] 1 _
     have HLIT:=Hh lit; clear lit
     by_cases h3:kd=3
     · subst h3
       rw [if_pos rfl]
       go_enter Tryz.func110,Tryz.ntmps110
       go_wp2_with fail
       (with_reducible refine (HRG.out _).mono ?_)
       rintro e w2 ⟨rfl,hb2⟩
       have hbx:=box_kept hb2
       obtain ⟨k0,k1,_,_,_,_⟩:=cells3 hbx
       have hl2:=blk_lt hbx
       have HB2:=Hh (below_of_alloc hb2)
       clear hb2 hbx
       go_wp2_with fail
       go_ret
       have hz:=HLIT.out (w2.alloc (.cells #[.int .i64 5,.int .i64 r,.int .i64 0] 172)) 5 r
       rw [World.size_alloc] at hz
       exact ⟨_,rfl,hz,(HB2.out.alloc HB2.out.size _).alloc (by rw [World.size_alloc]; have:=HB2.out.size; omega) _⟩
     · have e3:(kd == 3)=false:=by simpa using h3
       rw [if_neg h3]
       by_cases h4:kd=4
       · subst h4
         rw [if_pos rfl]
         have hro:relOp op=(op == [74,82] || op == [68,74,78,90]):=rfl
         rw [hro]
         rcases hj1:(op == [74,82]) with _ | _
         · rcases hj2:(op == [68,74,78,90]) with _ | _
           · rw [if_neg (by decide)]
             go_enter Tryz.func110,Tryz.ntmps110
             go_wp2_with fail
             (with_reducible refine (HRG.out _).mono ?_)
             rintro e w2 ⟨rfl,hb2⟩
             have hbx:=box_kept hb2
             obtain ⟨k0,k1,_,_,_,_⟩:=cells3 hbx
             have hl2:=blk_lt hbx
             have HB2:=Hh (below_of_alloc hb2)
             clear hb2 hbx
             go_wp2_with fail
             go_ret
             have hz:=HLIT.out (w2.alloc (.cells #[.int .i64 5,.int .i64 r,.int .i64 0] 172)) 6 0
             rw [World.size_alloc] at hz
             exact ⟨_,rfl,hz,(HB2.out.alloc HB2.out.size _).alloc (by rw [World.size_alloc]; have:=HB2.out.size; omega) _⟩
           · rw [if_pos (by decide)]
             go_enter Tryz.func110,Tryz.ntmps110
             go_wp2_with fail
             (with_reducible refine (HRG.out _).mono ?_)
             rintro e w2 ⟨rfl,hb2⟩
             have hbx:=box_kept hb2
             obtain ⟨k0,k1,_,_,_,_⟩:=cells3 hbx
             have hl2:=blk_lt hbx
             have HB2:=Hh (below_of_alloc hb2)
             clear hb2 hbx
             go_wp2_with fail
             go_ret
             have hz:=HLIT.out (w2.alloc (.cells #[.int .i64 5,.int .i64 r,.int .i64 0] 172)) 10 0
             rw [World.size_alloc] at hz
             exact ⟨_,rfl,hz,(HB2.out.alloc HB2.out.size _).alloc (by rw [World.size_alloc]; have:=HB2.out.size; omega) _⟩
         · rw [if_pos (by simp)]
           go_enter Tryz.func110,Tryz.ntmps110
           go_wp2_with fail
           (with_reducible refine (HRG.out _).mono ?_)
           rintro e w2 ⟨rfl,hb2⟩
           have hbx:=box_kept hb2
           obtain ⟨k0,k1,_,_,_,_⟩:=cells3 hbx
           have hl2:=blk_lt hbx
           have HB2:=Hh (below_of_alloc hb2)
           clear hb2 hbx
           go_wp2_with fail
           go_ret
           have hz:=HLIT.out (w2.alloc (.cells #[.int .i64 5,.int .i64 r,.int .i64 0] 172)) 10 0
           rw [World.size_alloc] at hz
           exact ⟨_,rfl,hz,(HB2.out.alloc HB2.out.size _).alloc (by rw [World.size_alloc]; have:=HB2.out.size; omega) _⟩
       · have e4:(kd == 4)=false:=by simpa using h4
         rw [if_neg h4]
         by_cases h5:kd=5
         · subst h5
           rw [if_pos rfl]
           go_enter Tryz.func110,Tryz.ntmps110
           go_wp2_with fail
           (with_reducible refine (HRG.out _).mono ?_)
           rintro e w2 ⟨rfl,hb2⟩
           have hbx:=box_kept hb2
           obtain ⟨k0,k1,_,_,_,_⟩:=cells3 hbx
           have hl2:=blk_lt hbx
           have HB2:=Hh (below_of_alloc hb2)
           clear hb2 hbx
           go_wp2_with fail
           go_ret
           have hz:=HLIT.out (w2.alloc (.cells #[.int .i64 5,.int .i64 r,.int .i64 0] 172)) 7 0
           rw [World.size_alloc] at hz
           exact ⟨_,rfl,hz,(HB2.out.alloc HB2.out.size _).alloc (by rw [World.size_alloc]; have:=HB2.out.size; omega) _⟩
         · have e5:(kd == 5)=false:=by simpa using h5
           rw [if_neg h5]
           go_enter Tryz.func110,Tryz.ntmps110
           go_wp2_with fail
           (with_reducible refine (HRG.out _).mono ?_)
           rintro e w2 ⟨rfl,hb2⟩
           have hbx:=box_kept hb2
           obtain ⟨k0,k1,_,_,_,_⟩:=cells3 hbx
           have hl2:=blk_lt hbx
           have HB2:=Hh (below_of_alloc hb2)
           clear hb2 hbx
           go_wp2_with fail
           go_ret
           exact ⟨_,rfl,(WRow.nil _ 0).row,HB2.out.alloc HB2.out.size _⟩
end Go.Proofs.YtkldoojonnkfgaaGreatDoor
