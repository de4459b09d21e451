/- Joined texts: OfT, FindS, LegalT, ShowT, Shown, Alive18P. -/
import Derived.Test.YtkldoojonnkfgaaGreatDoorB33
import Derived.Test.YtkldoojonnkfgaaGreatDoorB34
import Derived.Test.YtkldoojonnkfgaaGreatDoorB35
import Derived.Test.YtkldoojonnkfgaaGreatDoorB36
import Derived.Test.YtkldoojonnkfgaaGreatDoorB37
namespace Go.Proofs.YtkldoojonnkfgaaGreatDoor
open Go.RowKit Go.Sort
theorem exch_any (m:List UInt8) (v:Value) (l:List Op3) (b N:Nat) (w:World) (hW:WrAt w b N m v l) (hN:N≤b) (hNw:N≤w.heap.size) (hl:l.length≤1000) :
 Calls Tryz.prog 92 #[.pointer (some ⟨b,0,none⟩)] w fun e w'=>(∃ u,e=.returned u)∧(∃ v',WrAt w' b N m v' (exP m l))∧Below N w w':=by
 by_cases hm:m=[69,88]
 · subst hm
   have h:=exch_ex v l b N w hW hN hNw hl _ rfl
   have e:exP [69,88] l=if decide (l=[(3,2,0),(3,1,0)])=true then [(3,1,0),(3,2,0)] else l:=by
    unfold exP
    by_cases h:l=[(3,2,0),(3,1,0)]<;>simp [h]
   rw [e]
   exact h
 · have e:exP m l=l:=by unfold exP; rw [if_neg (fun h=>hm h.1)]
   rw [e]
   exact exch_no m v l b N w hW hNw hm
theorem run_index3 (a0 a1 a2:Value) (w:World) :
 (Instr.index 176 (.agg #[a0,a1,a2]) (.int .i64 0)).run Tryz.prog w=.ok a0 w∧(Instr.index 176 (.agg #[a0,a1,a2]) (.int .i64 1)).run Tryz.prog w=.ok a1 w ∧
 (Instr.index 176 (.agg #[a0,a1,a2]) (.int .i64 2)).run Tryz.prog w=.ok a2 w:=by
 refine ⟨?_,?_,?_⟩<;>(change _=_; kernel_rfl)
set_option maxRecDepth 100000 in
set_option maxHeartbeats 4000000 in
theorem of_any (m:List UInt8) (v:Value) (l:List Op3) (w:World) (hT:TabsA w) (hr:Row w v l.length (opc l)) (hl:l.length≤900) :
 Calls Tryz.prog 39 #[insV m v] w fun e w'=>∃ v',e=.returned (insV m v')∧WRow w' w.heap.size v' (canonP (m,l)).2.length (opc (canonP (m,l)).2)∧Below w.heap.size w w':=by
 have hcl:=fun X (hb:Below w.heap.size w X)=>clone_any v l X (hr.below hb) (by omega)
 have hA:(accP (m,l)).length≤l.length+1:=accP_len (m,l)
 have hE:(exP m (accP (m,l))).length=(accP (m,l)).length:=exP_len m _
 have hwid:=width_steps (m,l)
 have hacc:=fun X v' b (hb:Below w.heap.size w X) hW=>acc_any m v' l b (w.heap.size+1+1) X (hT.below hb) hW
 have hexc:=fun X v' b hW=>exch_any m v' (accP (m,l)) b (w.heap.size+1+1) X hW
 have hnum:=fun X v' b (hb:Below w.heap.size w X) hW=>nums_any m v' (exP m (accP (m,l))) b (w.heap.size+1+1) X (hT.below hb) hW
 have hcp:(canonP (m,l)).2=(exP m (accP (m,l))).map (posP (widthP (m,exP m (accP (m,l))))):=by
  unfold canonP
  dsimp only at hwid ⊢
  rw [hwid]
 rw [hcp]
 obtain ⟨L1,h1⟩:∃ L1,accP (m,l)=L1:=⟨_,rfl⟩
 rw [h1] at hA hE hacc hexc hnum ⊢
 obtain ⟨L2,h2⟩:∃ L2,exP m L1=L2:=⟨_,rfl⟩
 rw [h2] at hE hexc hnum ⊢
 obtain ⟨L3,h3⟩:∃ L3,L2.map (posP (widthP (m,L2)))=L3:=⟨_,rfl⟩
 rw [h3] at hnum ⊢
 clear h1 h2 h3 hwid hcp
 have HCL:=Hh hcl; clear hcl
 have HACC:=Hh hacc; clear hacc
 have HEXC:=Hh hexc; clear hexc
 have HNUM:=Hh hnum; clear hnum
 have HL:=Hh (And.intro hA hE); clear hA hE
 clear hT
 obtain ⟨a,c,rfl,_,_⟩:=hr
 go_enter Tryz.func39,Tryz.ntmps39
 go_wp2_with fail
 obtain ⟨W,hW⟩:∃ W,((w.alloc (.cells #[.string ⟨m.toArray⟩,.slice a l.length c] 24)).alloc (.cells #[.string ⟨#[]⟩,.slice none 0 0] 24))=W:=⟨_,rfl⟩
 have hbW:Below w.heap.size w W:=by rw [←hW]; exact ((Below.refl _ _).alloc (Nat.le_refl _) _).alloc (by simp) _
 have hsz:W.heap.size=w.heap.size+1+1:=by rw [←hW]; simp
 have h0:W.heap[w.heap.size]? = some (.cells #[.string ⟨m.toArray⟩,.slice a l.length c] 24 (0,0)):=by rw [←hW]; exact blk_alloc (blk_new _ _)
 have h1:W.heap[w.heap.size+1]? = some (.cells #[.string ⟨#[]⟩,.slice none 0 0] 24 (0,0)):=by rw [←hW]; have:=blk_new (w.alloc (.cells #[.string ⟨m.toArray⟩,.slice a l.length c] 24)) (.cells #[.string ⟨#[]⟩,.slice none 0 0] 24); rwa [World.size_alloc] at this
 rw [hW]
 clear hW
 obtain ⟨t0,t1,_,_⟩:=cells2 h0
 have hl0:w.heap.size<W.heap.size:=by omega
 have HSZ:=Hh hsz; have H0:=Hh h0; have H1:=Hh h1; have HBW:=Hh hbW
 have hK:∀ X,Below W.heap.size W X→X.cell? ⟨w.heap.size,0,none⟩=some (.string ⟨m.toArray⟩)∧X.cell? ⟨w.heap.size,1,none⟩=some (.slice a l.length c):=fun X hb=>⟨(hb.cell (p:=⟨w.heap.size,0,none⟩) hl0).trans t0,(hb.cell (p:=⟨w.heap.size,1,none⟩) hl0).trans t1⟩
 have HK:=Hh hK
 have K1:=hK W (Below.refl _ _)
 clear hsz h0 h1 hbW hK
 have hd:Below W.heap.size W W.drew:=bl
 have hd2:Below w.heap.size w W.drew:=HBW.out.trans (hd.mono HBW.out.size)
 go_region_held3 (fun X=>X.cell? ⟨w.heap.size,0,none⟩=some (.string ⟨m.toArray⟩)∧X.cell? ⟨w.heap.size,1,none⟩=some (.slice a l.length c)) (first | exact K1 | exact K4 | exact K5) (first | ((with_reducible refine (HCL.out _ hd2).mono ?_); rintro e w4 ⟨v4,rfl,hown4,hb4⟩; have hbw4:Below W.heap.size W w4:=hd.trans hb4; have K4:=HK.out w4 hbw4; obtain ⟨a4,c4,rfl⟩:=owns_slice hown4; have K5:=HK.out (w4.alloc (.cells #[.string ⟨m.toArray⟩,.slice a4 l.length c4] 174)) (hbw4.alloc hbw4.size _)))
 obtain ⟨W5,hW5⟩:∃ W5,(w4.alloc (.cells #[.string ⟨m.toArray⟩,.slice a4 l.length c4] 174))=W5:=⟨_,rfl⟩
 have hb45:Below w4.heap.size w4 W5:=by rw [←hW5]; exact (Below.refl _ _).alloc (Nat.le_refl _) _
 have hblk5:W5.heap[w4.heap.size]? = some (.cells #[.string ⟨m.toArray⟩,.slice a4 l.length c4] 174 (0,0)):=by rw [←hW5]; exact blk_new _ _
 rw [hW5]
 clear hW5 K1 K4 K5
 have hs4:w.heap.size+1+1≤w4.heap.size:=by have:=hbw4.size; rw [HSZ.out] at this; exact this
 have hbw5:Below W.heap.size W W5:=hbw4.trans (hb45.mono hbw4.size)
 have hbw:Below w.heap.size w W5:=HBW.out.trans (hbw5.mono HBW.out.size)
 have hwr5:WrAt W5 w4.heap.size (w.heap.size+1+1) m (.slice a4 l.length c4) l:=⟨hblk5,((WRow.of_owns hown4).mono (by show w.heap.size+1+1≤W.heap.size; rw [HSZ.out]; exact Nat.le_refl _)).below hb45,fun e=>by have:=(hown4.lt _ e).2; omega⟩
 have hres5:=blk_below H1.out hbw5 (by rw [HSZ.out]; omega)
 have hcall5:=HACC.out W5 _ _ hbw hwr5 (by omega) (by have:=hb45.size; omega)
 obtain ⟨b,hb⟩:∃ b,w4.heap.size=b:=⟨_,rfl⟩
 rw [hb] at hs4 hwr5 hcall5 ⊢
 have HC5:=Hh hcall5; have HR5:=Hh hres5; have HBW5:=Hh hbw; have HS4:=Hh hs4
 clear hb45 hblk5 hbw5 hbw hwr5 hres5 hcall5 hb hd hd2 hb4 hbw4 hown4 t0 t1 hl0
 go_wp2_with fail
 go_loopw [15] (fun i wr=>∃ j:Nat,j≤3∧i=.int .i64 j∧Hid (Below w.heap.size w wr)∧Hid (wr.heap[w.heap.size+1]? = some (.cells #[.string ⟨#[]⟩,.slice none 0 0] 24 (0,0)))∧Hid ((j=0∧wr=W5)∨(j=1∧∃ v1,WrAt wr b (w.heap.size+1+1) m v1 L1)∨(j=2∧∃ v1,WrAt wr b (w.heap.size+1+1) m v1 L2)∨(j=3∧∃ v1,WrAt wr b (w.heap.size+1+1) m v1 L3))) (fun i _=>3 - (intOf i).toNat)
 case atStart=>exact ⟨0,by omega,rfl,HBW5,HR5,Hh (.inl ⟨rfl,rfl⟩)⟩
 case round =>
  obtain ⟨j,hj,rfl,HB,HR,HJ⟩:=hrel
  rcases HJ.out with ⟨rfl,rfl⟩ | ⟨rfl,v1,hwr⟩ | ⟨rfl,v1,hwr⟩ | ⟨rfl,v1,hwr⟩
  · obtain ⟨hix,_,_⟩:=run_index3 (.func (.func 91) #[] #[]) (.func (.func 92) #[] #[]) (.func (.func 93) #[] #[]) wr
    go_wp2_with fail
    (with_reducible refine HC5.out.mono ?_)
    rintro e w6 ⟨⟨u,rfl⟩,⟨v6,hwr6⟩,hb6⟩
    have HR6:=Hh (blk_below HR.out hb6 (by have:=HS4.out; omega))
    have HB6:=Hh (HB.out.trans (hb6.mono (by omega)))
    have HW6:=Hh hwr6
    clear hwr6 hb6
    go_wp2_with fail
    go_roundw
    case rel=>exact ⟨1,by omega,by go_num,HB6,HR6,Hh (.inr (.inl ⟨rfl,v6,HW6.out⟩))⟩
    case measure=>simp [intOf]
  · obtain ⟨_,hix,_⟩:=run_index3 (.func (.func 91) #[] #[]) (.func (.func 92) #[] #[]) (.func (.func 93) #[] #[]) wr
    have hcall:=HEXC.out wr v1 b hwr (by have:=HS4.out; omega) (by have:=blk_lt HR.out; omega) (by have:=HL.out; omega)
    have HC:=Hh hcall; clear hcall hwr
    go_wp2_with fail
    (with_reducible refine HC.out.mono ?_)
    rintro e w6 ⟨⟨u,rfl⟩,⟨v6,hwr6⟩,hb6⟩
    have HR6:=Hh (blk_below HR.out hb6 (by have:=HS4.out; omega))
    have HB6:=Hh (HB.out.trans (hb6.mono (by omega)))
    have HW6:=Hh hwr6
    clear hwr6 hb6
    go_wp2_with fail
    go_roundw
    case rel=>exact ⟨2,by omega,by go_num,HB6,HR6,Hh (.inr (.inr (.inl ⟨rfl,v6,HW6.out⟩)))⟩
    case measure=>simp [intOf]
  · obtain ⟨_,_,hix⟩:=run_index3 (.func (.func 91) #[] #[]) (.func (.func 92) #[] #[]) (.func (.func 93) #[] #[]) wr
    have hcall:=HNUM.out wr v1 b HB.out hwr (by have:=HS4.out; omega) (by have:=blk_lt HR.out; omega) (by have:=HL.out; omega)
    have HC:=Hh hcall; clear hcall hwr
    go_wp2_with fail
    (with_reducible refine HC.out.mono ?_)
    rintro e w6 ⟨⟨u,rfl⟩,hwr6,hb6⟩
    have HR6:=Hh (blk_below HR.out hb6 (by have:=HS4.out; omega))
    have HB6:=Hh (HB.out.trans (hb6.mono (by omega)))
    have HW6:=Hh hwr6
    clear hwr6 hb6
    go_wp2_with fail
    go_roundw
    case rel=>exact ⟨3,by omega,by go_num,HB6,HR6,Hh (.inr (.inr (.inr ⟨rfl,v1,HW6.out⟩)))⟩
    case measure=>simp [intOf]
  · obtain ⟨t0,t1,_,_⟩:=cells2 hwr.blk
    obtain ⟨r0,r1,q0,q1⟩:=cells2 HR.out
    have HWR:=Hh hwr
    have hne:¬ b=w.heap.size+1:=by have:=HS4.out; omega
    have hlb:=blk_lt hwr.blk
    obtain ⟨av,cv,hv,_,_⟩:=hwr.row.op
    subst hv
    clear hwr
    go_wp2_with fail
    have hb9:((wr.setCell ⟨w.heap.size+1,0,none⟩ (.string ⟨m.toArray⟩)).setCell ⟨w.heap.size+1,1,none⟩ (.slice av L3.length cv)).heap[w.heap.size+1]? = some (.cells #[.string ⟨m.toArray⟩,.slice av L3.length cv] 24 (0,0)):=blk_set (blk_set HR.out)
    obtain ⟨n0,n1,_,_⟩:=cells2 hb9
    refine bodyPost_ret (v:=insV m (.slice av L3.length cv)) (by simp [results,Tryz.results39,go_sem,n0,n1]) rfl ⟨_,rfl,?_,(HB.out.setCell (p:=⟨w.heap.size+1,0,none⟩) (by show w.heap.size≤w.heap.size+1; omega) _).setCell (p:=⟨w.heap.size+1,1,none⟩) (by show w.heap.size≤w.heap.size+1; omega) _⟩
    exact ((HWR.out.row.kb ((Kb.refl (w.heap.size+1) wr).setCell 0 _) (by omega)).kb ((Kb.refl (w.heap.size+1) _).setCell 1 _) (by omega)).mono (by omega)
end Go.Proofs.YtkldoojonnkfgaaGreatDoor
namespace Go.Proofs.YtkldoojonnkfgaaGreatDoor
open Go.RowKit Go.Sort Go.Shelf
attribute [local go_sem] Oper.semAt_some
def FindRes (i:Ins2) (w:World) (e:Ending) (w':World):Prop :=
 ∃ v,e=.returned (.tuple #[entV ((findI i).1.getD ent0) v,.int .i64 (findI i).2])∧Row w' v ((findI i).1.getD ent0).args.length (opc ((findI i).1.getD ent0).args)∧Below w.heap.size w w'
set_option maxRecDepth 100000 in
set_option maxHeartbeats 8000000 in
theorem find_bad (m:List UInt8) (v:Value) (l:List Op3) (w:World) (hT:TabsA w) (hr:Row w v l.length (opc l)) (hl:l.length≤1000) (k:Int) (hk:checkP (m,l)=k) (hne:k≠0) :
 Calls Tryz.prog 16 #[insV m v] w (FindRes (m,l) w):=by
 have hf:findI (m,l)=(none,k):=by unfold findI; rw [if_neg (by rw [hk]; exact hne),hk]
 unfold FindRes
 rw [hf]
 have hck:=fun X (hb:Below w.heap.size w X)=>checkI_any m v l X (hT.below hb) (hr.below hb) (by omega)
 rw [hk] at hck
 have HCK:=Hh hck; clear hck
 have hne1:(k != 0)=true:=bne_iff_ne.2 hne
 obtain ⟨a,c,rfl,_,_⟩:=hr
 clear hf hk hne
 show Calls Tryz.prog 16 #[insV m (.slice a l.length c)] w fun e w'=>∃ v,e=.returned (.tuple #[entV ent0 v,.int .i64 k])∧Row w' v ent0.args.length (opc ent0.args)∧Below w.heap.size w w'
 go_enter Tryz.func16,Tryz.ntmps16
 go_wp2_with fail
 have hbW:Below w.heap.size w (((w.alloc (.cells #[.string ⟨m.toArray⟩,.slice a l.length c] 24)).alloc (.cells #[.int .i64 0,.int .u8 0,.string ⟨#[]⟩,.slice none 0 0,.string ⟨#[]⟩,.bool false] 41)).alloc (.cells #[.int .i64 0] 29)):=bl
 (with_reducible refine (HCK.out _ hbW).mono ?_)
 rintro e w2 ⟨rfl,hb2⟩
 have h1:=blk_below (blk_alloc (o':=.cells #[.int .i64 0] 29) (blk_new (w.alloc (.cells #[.string ⟨m.toArray⟩,.slice a l.length c] 24)) (.cells #[.int .i64 0,.int .u8 0,.string ⟨#[]⟩,.slice none 0 0,.string ⟨#[]⟩,.bool false] 41))) hb2 (by simp)
 have h2:=blk_below (blk_new ((w.alloc (.cells #[.string ⟨m.toArray⟩,.slice a l.length c] 24)).alloc (.cells #[.int .i64 0,.int .u8 0,.string ⟨#[]⟩,.slice none 0 0,.string ⟨#[]⟩,.bool false] 41)) (.cells #[.int .i64 0] 29)) hb2 (by simp)
 simp only [World.size_alloc] at h1 h2
 obtain ⟨⟨k0,k1,k2,k3,k4,k5⟩,f0,f1,f2,f3,f4,f5⟩:=cells6 h1
 have r0:w2.cell? ⟨w.heap.size+1+1,0,none⟩=some (.int .i64 0):=by rw [blk_cell h2]; rfl
 have q0:w2.frozen? ⟨w.heap.size+1+1,0,none⟩=false:=blk_frozen h2 0
 have H1:=Hh h1; have H2:=Hh h2
 have HB2:=Hh (hbW.trans (hb2.mono hbW.size))
 clear hbW hb2 h1 h2
 go_wp2_with fail
 have hfin:∀ v0 v1 v2 v3 v4 v5 vk,((((((((w2.setCell ⟨w.heap.size+1,0,none⟩ v0).setCell ⟨w.heap.size+1,1,none⟩ v1).setCell ⟨w.heap.size+1,2,none⟩ v2).setCell ⟨w.heap.size+1,3,none⟩ v3).setCell ⟨w.heap.size+1,4,none⟩ v4).setCell ⟨w.heap.size+1,5,none⟩ v5).setCell ⟨w.heap.size+1+1,0,none⟩ vk)).heap[w.heap.size+1]? = some (.cells #[v0,v1,v2,v3,v4,v5] 41 (0,0))∧((((((((w2.setCell ⟨w.heap.size+1,0,none⟩ v0).setCell ⟨w.heap.size+1,1,none⟩ v1).setCell ⟨w.heap.size+1,2,none⟩ v2).setCell ⟨w.heap.size+1,3,none⟩ v3).setCell ⟨w.heap.size+1,4,none⟩ v4).setCell ⟨w.heap.size+1,5,none⟩ v5).setCell ⟨w.heap.size+1+1,0,none⟩ vk)).heap[w.heap.size+1+1]? = some (.cells #[vk] 29 (0,0)):=fun v0 v1 v2 v3 v4 v5 vk=>⟨blk_other (blk_set (blk_set (blk_set (blk_set (blk_set (blk_set H1.out)))))) (by omega),blk_set (blk_other (blk_other (blk_other (blk_other (blk_other (blk_other H2.out (by omega)) (by omega)) (by omega)) (by omega)) (by omega)) (by omega))⟩
 obtain ⟨g1,g2⟩:=hfin (.int .i64 0) (.int .u8 0) (.string ⟨#[]⟩) (.slice none 0 0) (.string ⟨#[]⟩) (.bool false) (.int .i64 k)
 obtain ⟨⟨n0,n1,n2,n3,n4,n5⟩,_⟩:=cells6 g1
 have n6:=blk_cell g2 0
 simp only [List.getElem?_toArray,List.getElem?_cons_zero] at n6
 have hb9:=HB2.out
 refine bodyPost_ret (v:=.tuple #[entV ent0 (.slice none 0 0),.int .i64 k]) (by simp [results,Tryz.results16,go_sem,n0,n1,n2,n3,n4,n5,n6,ent0]) rfl ⟨_,rfl,(WRow.nil _ 0).row,?_⟩
 with_reducible repeat (refine Below.setCell ?_ (by first | exact Nat.le_refl _ | exact Nat.le_succ _ | (show w.heap.size≤w.heap.size+1+1; omega)) _)
 exact hb9
theorem Row.setOther {W:World} {n k i:Nat} {v u:Value} {xs:List Value} (h:Row W v n xs) (hne:xs≠[]→v.ownBlock≠some k):Row (W.setCell ⟨k,i,none⟩ u) v n xs:=by
 obtain ⟨a,cap,hv,hn,h⟩:=h
 refine ⟨a,cap,hv,hn,fun hx=>?_⟩
 obtain ⟨g,o,rfl,hg,hc⟩:=h hx
 have hgk:g≠k:=fun e=>hne hx (by rw [hv,e]; rfl)
 exact ⟨g,o,rfl,by rw [setCell_size]; exact hg,fun j hj=>(World.cell?_of_block (a:=⟨g,o+j,none⟩) (Below.heap_setCell W ⟨k,i,none⟩ u g hgk)).trans (hc j hj)⟩
theorem Row.own_lt {w:World} {n:Nat} {v:Value} {xs:List Value} (h:Row w v n xs) (hx:xs≠[]):∃ g,v.ownBlock=some g∧g<w.heap.size:=by
 obtain ⟨a,cap,rfl,hn,h⟩:=h
 obtain ⟨g,o,rfl,hg,_⟩:=h hx
 exact ⟨g,rfl,hg⟩
structure FI (b0 b5:Nat) (m:List UInt8) (v:Value) (C:List Op3) (code:Int) (W:World):Prop where
 r1:W.heap[b0+1]? = some (.cells #[.int .i64 0,.int .u8 0,.string ⟨#[]⟩,.slice none 0 0,.string ⟨#[]⟩,.bool false] 41 (0,0))
 r2:W.heap[b0+1+1]? = some (.cells #[.int .i64 0] 29 (0,0))
 r5:W.heap[b5]? = some (.cells #[.string ⟨m.toArray⟩,v] 24 (0,0))
 r6:W.heap[b5+1]? = some (.cells #[.int .i64 code] 29 (0,0))
 row:Row W v C.length (opc C)
theorem FI.keep {b0 b5:Nat} {m:List UInt8} {v:Value} {C:List Op3} {code:Int} {W W':World} (h:FI b0 b5 m v C code W) (hk:KeepC 0 W W'):FI b0 b5 m v C code W' :=
 ⟨hk.2 _ _ (Nat.zero_le _) h.r1 rfl,hk.2 _ _ (Nat.zero_le _) h.r2 rfl,hk.2 _ _ (Nat.zero_le _) h.r5 rfl,hk.2 _ _ (Nat.zero_le _) h.r6 rfl,h.row.keepC hk⟩
structure FX (b0:Nat) (x:Ent × Value) (W:World):Prop where
 r1:W.heap[b0+1]? = some (.cells #[.int .i64 x.1.page,.int .u8 x.1.op,.string ⟨x.1.mn.toArray⟩,x.2,.string ⟨x.1.extra.toArray⟩,.bool x.1.alias] 41 (0,0))
 r2:W.heap[b0+1+1]? = some (.cells #[.int .i64 0] 29 (0,0))
 row:Row W x.2 x.1.args.length (opc x.1.args)
theorem FX.keep {b0:Nat} {x:Ent × Value} {W W':World} (h:FX b0 x W) (hk:KeepC 0 W W'):FX b0 x W' :=
 ⟨hk.2 _ _ (Nat.zero_le _) h.r1 rfl,hk.2 _ _ (Nat.zero_le _) h.r2 rfl,h.row.keepC hk⟩
set_option maxRecDepth 100000 in
set_option maxHeartbeats 1600000 in
theorem find_good (m:List UInt8) (v:Value) (l:List Op3) (w:World) (hT:TabsA w) (hr:Row w v l.length (opc l)) (hk:checkP (m,l)=0) :
 Calls Tryz.prog 16 #[insV m v] w (FindRes (m,l) w):=by
 have hf:findI (m,l)=entryP (canonP (m,l)):=by unfold findI; rw [if_pos hk]
 unfold FindRes
 rw [hf]
 obtain ⟨hmo,hl3,_⟩:=check_parts hk
 dsimp only at hmo hl3
 obtain ⟨hup,hmne,hml⟩:=ops_up hmo
 have hck:=fun X (hb:Below w.heap.size w X)=>checkI_any m v l X (hT.below hb) (hr.below hb) (by omega)
 rw [hk] at hck
 have hof:=fun X (hb:Below w.heap.size w X)=>of_any m v l X (hT.below hb) (hr.below hb) (by omega)
 have hcl:=canonP_len (m,l)
 have hpg:=canon_pages hk
 have hc1:(canonP (m,l)).1=m:=rfl
 unfold entryP
 rw [hc1,←hpg]
 have hcp:canonP (m,l)=(m,(canonP (m,l)).2):=rfl
 rw [hcp]
 obtain ⟨C,hC⟩:∃ C,(canonP (m,l)).2=C:=⟨_,rfl⟩
 rw [hC] at hof hcl ⊢
 dsimp only at hcl
 clear hpg hc1 hcp hC hf hk
 have hmem:=fun e (he:e∈namedE m (pagesS C))=>namedE_mem (pagesS_ok C).2.2 he
 have hcand:=fun n b (hn:1≤n) cv=>cand_go n b hn m cv C (by omega)
 obtain ⟨es,hes⟩:∃ es,namedE m (pagesS C)=es:=⟨_,rfl⟩
 rw [hes] at hmem
 simp only [hes] at hcand
 rw [hes]
 clear hes
 obtain ⟨RES,hRES⟩:∃ RES,scanC (fun e=>(fitsV e (m,C)).isSome) (m,C) es 11=RES:=⟨_,rfl⟩
 rw [hRES]
 have HRES:=Hh hRES; clear hRES
 have hcd:=fun a n c X=>candidates_any m a n c X
 have HCD:=Hh hcd; clear hcd
 have HCK:=Hh hck; clear hck
 have HOF:=Hh hof; clear hof
 have HCAND:=Hh hcand; clear hcand
 have HMEM:=Hh hmem; clear hmem
 have HTT:=Hh hT; clear hT
 have HRR:=Hh hr
 obtain ⟨a,c,rfl,_,_⟩:=hr
 refine (callsIn_wide (n:=3)).1 ?_
 refine callsIn_of_wp_marks Tryz.func16 rfl trivial ?_ rfl
 simp only [Tryz.ntmps16,List.size_toArray,List.length_cons,List.length_nil,Nat.reduceAdd,Nat.reduceSub,Array.replicate_succ,Array.replicate_zero,List.push_toArray,List.append_toArray,List.nil_append,List.cons_append]
 refine wpIn_wide.2 ?_
 go_wp2_with fail
 have hbW:Below w.heap.size w (((w.alloc (.cells #[.string ⟨m.toArray⟩,.slice a l.length c] 24)).alloc (.cells #[.int .i64 0,.int .u8 0,.string ⟨#[]⟩,.slice none 0 0,.string ⟨#[]⟩,.bool false] 41)).alloc (.cells #[.int .i64 0] 29)):=bl
 (with_reducible refine (HCK.out _ hbW).mono ?_)
 rintro e w2 ⟨rfl,hb2⟩
 have h0:=blk_below (blk_alloc (o':=.cells #[.int .i64 0] 29) (blk_alloc (o':=.cells #[.int .i64 0,.int .u8 0,.string ⟨#[]⟩,.slice none 0 0,.string ⟨#[]⟩,.bool false] 41) (blk_new w (.cells #[.string ⟨m.toArray⟩,.slice a l.length c] 24)))) hb2 (by simp; omega)
 have h1:=blk_below (blk_alloc (o':=.cells #[.int .i64 0] 29) (blk_new (w.alloc (.cells #[.string ⟨m.toArray⟩,.slice a l.length c] 24)) (.cells #[.int .i64 0,.int .u8 0,.string ⟨#[]⟩,.slice none 0 0,.string ⟨#[]⟩,.bool false] 41))) hb2 (by simp)
 have h2:=blk_below (blk_new ((w.alloc (.cells #[.string ⟨m.toArray⟩,.slice a l.length c] 24)).alloc (.cells #[.int .i64 0,.int .u8 0,.string ⟨#[]⟩,.slice none 0 0,.string ⟨#[]⟩,.bool false] 41)) (.cells #[.int .i64 0] 29)) hb2 (by simp)
 simp only [World.size_alloc] at h1 h2
 obtain ⟨k0,k1,_,_⟩:=cells2 h0
 have H1:=Hh h1; have H2:=Hh h2
 have HB2:=Hh (hbW.trans (hb2.mono hbW.size))
 have hs2:=blk_lt h2
 have hl0:w.heap.size<w2.heap.size:=by omega
 clear hbW hb2 h0 h1 h2
 go_wp2_with fail
 (with_reducible refine (HOF.out _ HB2.out).mono ?_)
 rintro e w3 ⟨v3,rfl,hrow3,hb3⟩
 have h13:=blk_below H1.out hb3 (by omega)
 have h23:=blk_below H2.out hb3 hs2
 have hb3w:=HB2.out.trans (hb3.mono HB2.out.size)
 have hs3:w.heap.size+1+1<w3.heap.size:=blk_lt h23
 obtain ⟨a3,c3,hv3,_,_⟩:=hrow3.op
 subst hv3
 have hrw3:=hrow3.row
 clear hrow3 k0 k1 hl0 hs2
 go_wp2_with fail
 have hcd4:=HCD.out a3 C.length c3 ((w3.alloc (.cells #[.string ⟨m.toArray⟩,.slice a3 C.length c3] 24)).alloc (.cells #[.int .i64 11] 29))
 simp only [World.size_alloc] at hcd4
 (with_reducible refine hcd4.mono ?_)
 rintro e w4 ⟨rfl,hw4⟩
 have g1:w4.heap[w.heap.size+1]? = some (.cells #[.int .i64 0,.int .u8 0,.string ⟨#[]⟩,.slice none 0 0,.string ⟨#[]⟩,.bool false] 41 (0,0)):=by rw [hw4]; exact blk_alloc (blk_alloc (blk_alloc h13))
 have g2:w4.heap[w.heap.size+1+1]? = some (.cells #[.int .i64 0] 29 (0,0)):=by rw [hw4]; exact blk_alloc (blk_alloc (blk_alloc h23))
 have g5:w4.heap[w3.heap.size]? = some (.cells #[.string ⟨m.toArray⟩,.slice a3 C.length c3] 24 (0,0)):=by rw [hw4]; exact blk_alloc (blk_alloc (blk_new _ _))
 have g6:w4.heap[w3.heap.size+1]? = some (.cells #[.int .i64 11] 29 (0,0)):=by
  rw [hw4]
  have:=blk_new (w3.alloc (.cells #[.string ⟨m.toArray⟩,.slice a3 C.length c3] 24)) (.cells #[.int .i64 11] 29)
  rw [World.size_alloc] at this
  exact blk_alloc this
 have gb:w4.heap[w3.heap.size+1+1]? = some (.cells #[.string ⟨m.toArray⟩,.slice a3 C.length c3] 24 (0,0)):=by
  rw [hw4]
  have:=blk_new ((w3.alloc (.cells #[.string ⟨m.toArray⟩,.slice a3 C.length c3] 24)).alloc (.cells #[.int .i64 11] 29)) (.cells #[.string ⟨m.toArray⟩,.slice a3 C.length c3] 24)
  simpa only [World.size_alloc] using this
 have hal:Below w3.heap.size w3 w4:=by rw [hw4]; exact (((Below.refl _ _).alloc (Nat.le_refl _) _).alloc (by simp) _).alloc (by simp; omega) _
 have hrw4:=hrw3.below hal
 have hb4:=hb3w.trans (hal.mono hb3w.size)
 have hT4:=HTT.out.below hb4
 have hs4:w3.heap.size+1+1<w4.heap.size:=blk_lt gb
 have HG:=Hh (show FI w.heap.size w3.heap.size m (.slice a3 C.length c3) C 11 w4 from ⟨g1,g2,g5,g6,hrw4⟩)
 have HGB:=Hh (And.intro gb (And.intro hT4 hrw4))
 have HB4:=Hh hb4
 obtain ⟨B5,hB5⟩:∃ B5,w3.heap.size=B5:=⟨_,rfl⟩
 rw [hB5] at HG HGB hs3 hs4 ⊢
 have hown5:opc C≠[]→(Value.slice a3 C.length c3).ownBlock≠some (w3.heap.size+1):=fun hx e=>by
  obtain ⟨g,h1,h2⟩:=hrw3.own_lt hx
  rw [h1] at e
  have:=Option.some.inj e
  omega
 rw [hB5] at hown5
 have HOWN5:=Hh hown5
 clear hown5 g1 g2 g5 g6 gb hal hrw4 hb4 hT4 hw4 hcd4 hrw3 h13 h23 hb3w hb3 hB5
 go_wp2_with fail
 refine (wpIn_wide (n:=3)).1 ?_
 refine wpIn_rangeFunc_stepsA rfl (by decide) (gf:=114) (lb:=#[.pointer (some ⟨B5+1+1,0,none⟩)]) rfl trivial (enters_of Tryz.func114 (by kernel_rfl) rfl)
  (HCAND.out 2 (B5+1+1) (by decide) (.slice a3 C.length c3))
  (fun o o'=>⟨blk_alloc (blk_alloc HGB.out.1),HGB.out.2.1.below (((Below.refl _ _).alloc (Nat.le_refl _) o).alloc (by rw [World.size_alloc]; omega) o'),HGB.out.2.2.below (((Below.refl _ _).alloc (Nat.le_refl _) o).alloc (by rw [World.size_alloc]; omega) o')⟩)
  (fun A B k o h hk _ _=>blk_below hk h (blk_lt hk)) keepC_t (fun W l o o' _ hl hc _=>keepC_b W l o o' hl hc) (fun x W l o o' h _ hl hc=>⟨h.1,h.2.keepC (keepC_b (b:=0) W l o o' hl hc) (Nat.zero_le _)⟩) (fun _=>rfl)
  (fun pre W=>(∃ code:Int,(∀ rest,scanC (fun e=>(fitsV e (m,C)).isSome) (m,C) (pre.map Prod.fst++rest) 11=scanC (fun e=>(fitsV e (m,C)).isSome) (m,C) rest code)∧FI w.heap.size B5 m (.slice a3 C.length c3) C code W)∧Below w.heap.size w W)
  (fun cd pre W=>(cd=.ret∧∃ q x,pre=q++[x]∧(∀ rest,scanC (fun e=>(fitsV e (m,C)).isSome) (m,C) (pre.map Prod.fst++rest) 11=(some x.1,0))∧FX w.heap.size x W)∧Below w.heap.size w W)
  ?hI ?hIs ?hIx ?hIxs ⟨⟨11,fun rest=>rfl,HG.out⟩,HB4.out⟩
  (fun x W=>{ tmps:=#[insV m (.slice a l.length c),.pointer (some ⟨w.heap.size,0,none⟩),.pointer (some ⟨w.heap.size+1,0,none⟩),.pointer (some ⟨w.heap.size+1+1,0,none⟩),.int .i64 0,.pointer (some ⟨B5,0,none⟩),.pointer (some ⟨B5+1,0,none⟩),.pointer (some ⟨W.heap.size,0,none⟩),undef,undef,undef,.agg #[.string ⟨m.toArray⟩,.slice a l.length c],.int .i64 0,.int .i64 0,.bool false,undef,undef,.agg #[.string ⟨m.toArray⟩,.slice a l.length c],insV m (.slice a3 C.length c3),.agg #[.string ⟨m.toArray⟩,.slice a3 C.length c3],.func (.func 114) #[] #[.pointer (some ⟨B5+1+1,0,none⟩)],entV x.1 x.2,undef,undef,undef,undef,undef,undef,undef,undef,undef,undef,undef,undef,undef,undef,undef,undef,undef,undef,undef],defers:=[] })
  (fun x W=>W.alloc (.cells #[.int .i64 x.1.page,.int .u8 x.1.op,.string ⟨x.1.mn.toArray⟩,x.2,.string ⟨x.1.extra.toArray⟩,.bool x.1.alias] 41))
  (fun x a' W=>∃ k,a'={ tmps:=#[insV m (.slice a l.length c),.pointer (some ⟨w.heap.size,0,none⟩),.pointer (some ⟨w.heap.size+1,0,none⟩),.pointer (some ⟨w.heap.size+1+1,0,none⟩),.int .i64 0,.pointer (some ⟨B5,0,none⟩),.pointer (some ⟨B5+1,0,none⟩),.pointer (some ⟨k,0,none⟩),undef,undef,undef,.agg #[.string ⟨m.toArray⟩,.slice a l.length c],.int .i64 0,.int .i64 0,.bool false,undef,undef,.agg #[.string ⟨m.toArray⟩,.slice a l.length c],insV m (.slice a3 C.length c3),.agg #[.string ⟨m.toArray⟩,.slice a3 C.length c3],.func (.func 114) #[] #[.pointer (some ⟨B5+1+1,0,none⟩)],entV x.1 x.2,undef,undef,undef,undef,undef,undef,undef,undef,undef,undef,undef,undef,undef,undef,undef,undef,undef,undef,undef],defers:=[] }∧W.heap[k]? = some (.cells #[.int .i64 x.1.page,.int .u8 x.1.op,.string ⟨x.1.mn.toArray⟩,x.2,.string ⟨x.1.extra.toArray⟩,.bool x.1.alias] 41 (0,0)))
  ?assign (fun x W=>(Below.refl _ _).alloc (Nat.le_refl _) _) (fun x W=>keepC_below ((Below.refl _ _).alloc (Nat.le_refl _) _)) (fun x W h=>⟨h.1,h.2.below ((Below.refl _ _).alloc (Nat.le_refl _) _)⟩) (fun x W=>⟨_,rfl,blk_new _ _⟩) (fun x a' W l o o' ⟨k,h1,h2⟩ _ hl hc=>⟨k,h1,(keepC_b (b:=0) W l o o' hl hc).2 _ _ (Nat.zero_le _) h2 rfl⟩) ?body ?done ?stop
 case hI=>exact OwnFrom.and (fun s A B row ⟨code,h1,h2⟩ hg hr=>⟨code,h1,h2.keep (grown_keepC hg hr)⟩) (ownFrom_below (Nat.le_refl _) HB4.out.size)
 case hIs=>exact fun s A B ⟨⟨code,h1,h2⟩,h3⟩ hs=>⟨⟨code,h1,h2.keep (keepC_below hs)⟩,h3.trans (hs.mono h3.size)⟩
 case hIx=>exact fun cd=>OwnFrom.and (fun s A B row ⟨h0,q,x,h1,h2,h3⟩ hg hr=>⟨h0,q,x,h1,h2,h3.keep (grown_keepC hg hr)⟩) (ownFrom_below (Nat.le_refl _) HB4.out.size)
 case hIxs=>exact fun cd s A B ⟨⟨h0,q,x,h1,h2,h3⟩,h4⟩ hs=>⟨⟨h0,q,x,h1,h2,h3.keep (keepC_below hs)⟩,h4.trans (hs.mono h4.size)⟩
 case assign =>
  rintro l ⟨⟨page,op,mn,args,ex,al⟩,vx⟩ W K ⟨_,hgr⟩ hK
  dsimp only at hgr hK
  obtain ⟨ax,cx,rfl,_,_⟩:=hgr
  gi_wp2
  exact hK
 case body =>
  rintro lp pre ⟨⟨page,op,mn,args,ex,al⟩,vx⟩ a' W ⟨⟨code,hsc,hfi⟩,hbl⟩ ⟨hgm,hgr⟩ ⟨k,rfl,hk⟩ hN
  dsimp only at hgr hk
  have hgw:=hgr
  replace hgr:=hgr.row
  obtain ⟨hmn,hal3⟩:=HMEM.out _ hgm
  dsimp only at hmn hal3
  have hsh:=fun X (hb:Below W.heap.size W X)=>shaped_any ⟨page,op,mn,args,ex,al⟩ vx m (.slice a3 C.length c3) C X (hgr.below hb) (hfi.row.below hb) (by dsimp only; omega) (by dsimp only; rw [hmn]; omega) (by omega) (by omega)
  have hft:=fun X (hb:Below W.heap.size W X)=>sfits_any ⟨page,op,mn,args,ex,al⟩ vx m (.slice a3 C.length c3) C X (hgr.below hb) (hfi.row.below hb) (by dsimp only; omega) (by dsimp only; rw [hmn]; omega) (by omega) (by omega) hup hmne
  obtain ⟨sh,hsheq⟩:∃ sh,shapedP ⟨page,op,mn,args,ex,al⟩ (m,C)=sh:=⟨_,rfl⟩
  obtain ⟨ft,hfteq⟩:∃ ft,fitsV ⟨page,op,mn,args,ex,al⟩ (m,C)=ft:=⟨_,rfl⟩
  rw [hsheq] at hsh
  rw [hfteq] at hft
  have HSH:=Hh hsh; have HFT:=Hh hft
  have HSE:=Hh hsheq; have HFE:=Hh hfteq
  have HSC:=Hh hsc; have HFI:=Hh hfi; have HBL:=Hh hbl; have HGR:=Hh hgw; have HK:=Hh hk
  obtain ⟨ax,cx,hvx,_,_⟩:=hgr
  subst hvx
  clear hsh hft hsheq hfteq hsc hgm hal3 hmn hgw
  obtain ⟨⟨k0,k1,k2,k3,k4,k5⟩,_⟩:=cells6 hk
  obtain ⟨c0,c1,_,_⟩:=cells2 hfi.r5
  have hlk:=blk_lt hk
  have hl5:=blk_lt hfi.r5
  have hl6:=blk_lt hfi.r6
  clear hfi hk hbl
  cases al with
  | true =>
    gi_wp2_with fail
    refine ⟨trivial,?_⟩
    gi_wp2_with fail
    exact ⟨KeepsOthers.refl _,⟨Nat.le_refl _,fun _ _ _ h _=>h⟩,⟨⟨code,fun rest=>by rw [List.map_append,List.append_assoc,HSC.out]; exact scan_skip rfl rest code,HFI.out⟩,HBL.out⟩⟩
  | false =>
    gi_wp2_with fail
    refine ⟨trivial,?_⟩
    refine (CallsIn.inRound lp (callsIn_wide.2 (HSH.out _ (Below.refl _ _)))).mono ?_
    rintro e W1 ⟨rfl,hb1⟩
    have hk1:=blk_below HK.out hb1 hlk
    have hfi1:=HFI.out.keep (keepC_below hb1)
    have hft1:=HFT.out _ hb1
    have HFI1:=Hh hfi1; have HK1:=Hh hk1
    have HB1:=Hh hb1
    have HBL1:=Hh (HBL.out.trans (hb1.mono HBL.out.size))
    clear k0 k1 k2 k3 k4 k5 c0 c1 hb1
    obtain ⟨⟨k0,k1,k2,k3,k4,k5⟩,_⟩:=cells6 hk1
    obtain ⟨c0,c1,_,_⟩:=cells2 hfi1.r5
    clear hk1 hfi1
    cases sh with
    | false =>
      gi_wp2_with fail
      exact ⟨keepO_below HB1.out,keepC_below HB1.out,⟨⟨code,fun rest=>by rw [List.map_append,List.append_assoc,HSC.out]; exact scan_skip (by rw [HSE.out]; rfl) rest code,HFI1.out⟩,HBL1.out⟩⟩
    | true =>
      cases ft with
      | none =>
        have hft2:Calls Tryz.prog 54 #[.agg #[.int .i64 page,.int .u8 op,.string ⟨mn.toArray⟩,.slice ax args.length cx,.string ⟨ex.toArray⟩,.bool false],.agg #[.string ⟨m.toArray⟩,.slice a3 C.length c3]] W1 fun e w'=>e=.returned (.tuple #[.int .i64 0,.int .i64 0,.bool false])∧Below W1.heap.size W1 w':=hft1
        have HF2:=Hh hft2; clear hft1 hft2
        gi_wp2_with fail
        refine ⟨trivial,?_⟩
        refine (CallsIn.inRound lp (callsIn_wide.2 HF2.out)).mono ?_
        rintro e W2 ⟨rfl,hb2⟩
        have hfi2:=HFI1.out.keep (keepC_below hb2)
        have HFI2:=Hh hfi2
        have HB2:=Hh (HB1.out.trans (hb2.mono HB1.out.size))
        have HBL2:=Hh (HBL1.out.trans (hb2.mono HBL1.out.size))
        have q6:W2.cell? ⟨B5+1,0,none⟩=some (.int .i64 code):=by rw [blk_cell hfi2.r6]; rfl
        have q7:W2.frozen? ⟨B5+1,0,none⟩=false:=blk_frozen hfi2.r6 0
        have hl62:=blk_lt hfi2.r6
        clear hfi2 hb2 k0 k1 k2 k3 k4 k5 c0 c1
        gi_wp2_with fail
        refine ⟨(keepO_below HB2.out).trans (KeepsOthers.setCell _ _ _),keepC_t (keepC_below HB2.out) (keepC_set _ _ (by omega)),⟨⟨2,fun rest=>by rw [List.map_append,List.append_assoc,HSC.out]; exact scan_miss (by rw [HSE.out]; rfl) (by rw [HFE.out]; rfl) rest code,⟨blk_other HFI2.out.r1 (by omega),blk_other HFI2.out.r2 (by omega),blk_other HFI2.out.r5 (by omega),blk_set HFI2.out.r6,?_⟩⟩,HBL2.out.setCell (p:=⟨B5+1,0,none⟩) (by show w.heap.size≤B5+1; omega) _⟩⟩
        exact HFI2.out.row.setOther HOWN5.out
      | some dn =>
        obtain ⟨d,nn⟩:=dn
        have hft2:Calls Tryz.prog 54 #[.agg #[.int .i64 page,.int .u8 op,.string ⟨mn.toArray⟩,.slice ax args.length cx,.string ⟨ex.toArray⟩,.bool false],.agg #[.string ⟨m.toArray⟩,.slice a3 C.length c3]] W1 fun e w'=>e=.returned (.tuple #[.int .i64 d,.int .i64 nn,.bool true])∧Below W1.heap.size W1 w':=hft1
        have HF2:=Hh hft2; clear hft1 hft2
        gi_wp2_with fail
        refine ⟨trivial,?_⟩
        refine (CallsIn.inRound lp (callsIn_wide.2 HF2.out)).mono ?_
        rintro e W2 ⟨rfl,hb2⟩
        have hfi2:=HFI1.out.keep (keepC_below hb2)
        have hk2:=blk_below HK1.out hb2 (blk_lt HK1.out)
        have HFI2:=Hh hfi2
        have HB2:=Hh (HB1.out.trans (hb2.mono HB1.out.size))
        have HBL2:=Hh (HBL1.out.trans (hb2.mono HBL1.out.size))
        have HGR2:=Hh (HGR.out.below HB2.out)
        clear k0 k1 k2 k3 k4 k5 c0 c1
        obtain ⟨⟨k0,k1,k2,k3,k4,k5⟩,_⟩:=cells6 hk2
        obtain ⟨⟨z0,z1,z2,z3,z4,z5⟩,y0,y1,y2,y3,y4,y5⟩:=cells6 hfi2.r1
        have q6:W2.cell? ⟨w.heap.size+1+1,0,none⟩=some (.int .i64 0):=by rw [blk_cell hfi2.r2]; rfl
        have q7:W2.frozen? ⟨w.heap.size+1+1,0,none⟩=false:=blk_frozen hfi2.r2 0
        have hl12:=blk_lt hfi2.r1
        have hl22:=blk_lt hfi2.r2
        clear hfi2 hb2 hk2
        gi_wp2_with fail
        refine ⟨?_,⟨rfl,pre,(⟨page,op,mn,args,ex,false⟩,.slice ax args.length cx),rfl,fun rest=>by rw [List.map_append,List.append_assoc,HSC.out]; exact scan_hit (by rw [HSE.out]; rfl) (by rw [HFE.out]; rfl) rest code,⟨blk_other (blk_set (blk_set (blk_set (blk_set (blk_set (blk_set HFI2.out.r1)))))) (by omega),blk_set (blk_other (blk_other (blk_other (blk_other (blk_other (blk_other HFI2.out.r2 (by omega)) (by omega)) (by omega)) (by omega)) (by omega)) (by omega)),?_⟩⟩,?_⟩
        · with_reducible repeat (refine KeepsOthers.trans ?_ (KeepsOthers.setCell _ _ _))
          exact keepO_below HB2.out
        · have hz:=(((((((Kb.refl (w.heap.size+1) W2).setCell 0 (.int .i64 page)).setCell 1 (.int .u8 op)).setCell 2 (.string ⟨mn.toArray⟩)).setCell 3 (.slice ax args.length cx)).setCell 4 (.string ⟨ex.toArray⟩)).setCell 5 (.bool false))
          exact ((HGR2.out.kb hz (by omega)).kb ((Kb.refl (w.heap.size+1+1) _).setCell 0 (.int .i64 0)) (by omega)).row
        · have hb9:=HBL2.out
          with_reducible repeat (refine Below.setCell ?_ (by first | exact Nat.le_refl _ | exact Nat.le_succ _ | (show w.heap.size≤w.heap.size+1+1; omega)) _)
          exact hb9
 case done =>
  rintro D ys W hD hys ⟨⟨code,hsc,hfi⟩,hbl⟩ hK
  have hres:=hsc []
  rw [List.append_nil,hys,HRES.out] at hres
  have HR:=Hh (show RES=(none,code) from hres)
  have HFI:=Hh hfi; have HBL:=Hh hbl
  obtain ⟨⟨z0,z1,z2,z3,z4,z5⟩,y0,y1,y2,y3,y4,y5⟩:=cells6 hfi.r1
  have q6:W.cell? ⟨w.heap.size+1+1,0,none⟩=some (.int .i64 0):=by rw [blk_cell hfi.r2]; rfl
  have q7:W.frozen? ⟨w.heap.size+1+1,0,none⟩=false:=blk_frozen hfi.r2 0
  have q8:W.cell? ⟨B5+1,0,none⟩=some (.int .i64 code):=by rw [blk_cell hfi.r6]; rfl
  have hl12:=blk_lt hfi.r1
  have hl22:=blk_lt hfi.r2
  have hl62:=blk_lt hfi.r6
  have hchain:∀ v0 v1 v2 v3 v4 v5 vk,((((((((W.setCell ⟨w.heap.size+1,0,none⟩ v0).setCell ⟨w.heap.size+1,1,none⟩ v1).setCell ⟨w.heap.size+1,2,none⟩ v2).setCell ⟨w.heap.size+1,3,none⟩ v3).setCell ⟨w.heap.size+1,4,none⟩ v4).setCell ⟨w.heap.size+1,5,none⟩ v5).setCell ⟨w.heap.size+1+1,0,none⟩ vk)).drew.heap[w.heap.size+1]? = some (.cells #[v0,v1,v2,v3,v4,v5] 41 (0,0))∧((((((((W.setCell ⟨w.heap.size+1,0,none⟩ v0).setCell ⟨w.heap.size+1,1,none⟩ v1).setCell ⟨w.heap.size+1,2,none⟩ v2).setCell ⟨w.heap.size+1,3,none⟩ v3).setCell ⟨w.heap.size+1,4,none⟩ v4).setCell ⟨w.heap.size+1,5,none⟩ v5).setCell ⟨w.heap.size+1+1,0,none⟩ vk)).drew.heap[w.heap.size+1+1]? = some (.cells #[vk] 29 (0,0))∧((((((((W.setCell ⟨w.heap.size+1,0,none⟩ v0).setCell ⟨w.heap.size+1,1,none⟩ v1).setCell ⟨w.heap.size+1,2,none⟩ v2).setCell ⟨w.heap.size+1,3,none⟩ v3).setCell ⟨w.heap.size+1,4,none⟩ v4).setCell ⟨w.heap.size+1,5,none⟩ v5).setCell ⟨w.heap.size+1+1,0,none⟩ vk)).drew.heap[D]? = some (.deferred (some []))∧Below w.heap.size w ((((((((W.setCell ⟨w.heap.size+1,0,none⟩ v0).setCell ⟨w.heap.size+1,1,none⟩ v1).setCell ⟨w.heap.size+1,2,none⟩ v2).setCell ⟨w.heap.size+1,3,none⟩ v3).setCell ⟨w.heap.size+1,4,none⟩ v4).setCell ⟨w.heap.size+1,5,none⟩ v5).setCell ⟨w.heap.size+1+1,0,none⟩ vk)).drew:=fun v0 v1 v2 v3 v4 v5 vk=>by
   refine ⟨blk_drew ?_,blk_drew ?_,blk_drew ?_,?_⟩
   · exact blk_other (blk_set (blk_set (blk_set (blk_set (blk_set (blk_set HFI.out.r1)))))) (by omega)
   · exact blk_set (blk_other (blk_other (blk_other (blk_other (blk_other (blk_other HFI.out.r2 (by omega)) (by omega)) (by omega)) (by omega)) (by omega)) (by omega))
   · exact blk_other (blk_other (blk_other (blk_other (blk_other (blk_other (blk_other hK (by omega)) (by omega)) (by omega)) (by omega)) (by omega)) (by omega)) (by omega)
   · refine Below.drew ?_
     have hb9:=HBL.out
     with_reducible repeat (refine Below.setCell ?_ (by first | exact Nat.le_refl _ | exact Nat.le_succ _ | (show w.heap.size≤w.heap.size+1+1; omega)) _)
     exact hb9
  obtain ⟨g1,g2,g3,g4⟩:=hchain (.int .i64 0) (.int .u8 0) (.string ⟨#[]⟩) (.slice none 0 0) (.string ⟨#[]⟩) (.bool false) (.int .i64 code)
  have hDw:w.heap.size≤D:=by have:=HB4.out.size; omega
  have HG1:=Hh g1; have HG2:=Hh g2; have HG3:=Hh g3; have HG4:=Hh g4
  clear hsc hfi hbl hres hys hchain g1 g2 g3 g4
  go_wp2_with fail
  go_region
  all_goals
   obtain ⟨X,hX⟩:∃ X,((((((((W.setCell ⟨w.heap.size+1,0,none⟩ (.int .i64 0)).setCell ⟨w.heap.size+1,1,none⟩ (.int .u8 0)).setCell ⟨w.heap.size+1,2,none⟩ (.string ⟨#[]⟩)).setCell ⟨w.heap.size+1,3,none⟩ (.slice none 0 0)).setCell ⟨w.heap.size+1,4,none⟩ (.string ⟨#[]⟩)).setCell ⟨w.heap.size+1,5,none⟩ (.bool false)).setCell ⟨w.heap.size+1+1,0,none⟩ (.int .i64 code))).drew=X:=⟨_,rfl⟩
   rw [hX] at HG1 HG2 HG3 HG4 ⊢
   clear hX
   go_wp2_with fail
   refine ⟨by simp,.inl ⟨_,_,rfl,run_takeDeferred HG3.out,?_⟩⟩
   obtain ⟨⟨n0,n1,n2,n3,n4,n5⟩,_⟩:=cells6 ((keepC_b (b:=0) X D _ (.deferred none) HG3.out rfl).2 _ _ (Nat.zero_le _) HG1.out rfl)
   have n6:=blk_cell ((keepC_b (b:=0) X D _ (.deferred none) HG3.out rfl).2 _ _ (Nat.zero_le _) HG2.out rfl) 0
   simp only [List.getElem?_toArray,List.getElem?_cons_zero] at n6
   refine ⟨.tuple #[entV ent0 (.slice none 0 0),.int .i64 code],?_,⟨_,by rw [HR.out]; rfl,by rw [HR.out]; exact (WRow.nil _ 0).row,HG4.out.trans (belowK_b (w:=w) (Nat.le_refl _) X D _ _ hDw HG3.out rfl rfl)⟩⟩
   simp [results,Tryz.f16,go_sem,n0,n1,n2,n3,n4,n5,n6,ent0]
 case stop =>
  rintro D cd pre W hD hpre ⟨⟨rfl,q,x,hq,hsc,hfx⟩,hbl⟩ hK
  obtain ⟨rest,hrest⟩:=hpre
  have hres:=hsc rest
  rw [hrest,HRES.out] at hres
  have HR:=Hh (show RES=(some x.1,0) from hres)
  have hDw:w.heap.size≤D:=by have:=HB4.out.size; omega
  obtain ⟨⟨n0,n1,n2,n3,n4,n5⟩,_⟩:=cells6 ((keepC_b (b:=0) W D _ (.deferred none) hK rfl).2 _ _ (Nat.zero_le _) hfx.r1 rfl)
  have n6:=blk_cell ((keepC_b (b:=0) W D _ (.deferred none) hK rfl).2 _ _ (Nat.zero_le _) hfx.r2 rfl) 0
  simp only [List.getElem?_toArray,List.getElem?_cons_zero] at n6
  have hrowx:=hfx.row.keepC (keepC_b (b:=0) W D _ (.deferred none) hK rfl)
  obtain ⟨⟨page,op,mn,args,ex,al⟩,vx⟩:=x
  dsimp only at n0 n1 n2 n3 n4 n5 hrowx
  obtain ⟨ax,cx,rfl,hcx,hxx⟩:=hrowx
  have HROWX:=Hh (show Row _ (.slice ax args.length cx) args.length (opc args) from ⟨_,_,rfl,hcx,hxx⟩)
  clear hsc hfx hres hrest hq hxx
  gi_wp2
  refine ⟨by simp,.inl ⟨_,_,rfl,run_takeDeferred hK,?_⟩⟩
  refine ⟨.tuple #[entV ⟨page,op,mn,args,ex,al⟩ (.slice ax args.length cx),.int .i64 0],?_,⟨_,by rw [HR.out]; rfl,by rw [HR.out]; exact HROWX.out,hbl.trans (belowK_b (w:=w) (Nat.le_refl _) W D _ _ hDw hK rfl rfl)⟩⟩
  simp [results,Tryz.f16,go_sem,n0,n1,n2,n3,n4,n5,n6]
theorem find7_any (m:List UInt8) (v:Value) (l:List Op3) (w:World) (hT:TabsA w) (hr:Row w v l.length (opc l)) (hl:l.length≤1000):Calls Tryz.prog 16 #[insV m v] w (FindRes (m,l) w):=by
 by_cases hk:checkP (m,l)=0
 · exact find_good m v l w hT hr hk
 · exact find_bad m v l w hT hr hl _ rfl hk
end Go.Proofs.YtkldoojonnkfgaaGreatDoor
namespace Go.Proofs.YtkldoojonnkfgaaGreatDoor
open Go.RowKit Go.Sort
set_option maxRecDepth 100000 in
set_option maxHeartbeats 2000000 in
theorem legal1_any (m:List UInt8) (v:Value) (l:List Op3) (w:World) (hT:TabsA w) (hr:Row w v l.length (opc l)) (hl:l.length≤1000) (R:Bool) (hR:decide ((findI (m,l)).2≠0)=R) :
 Calls Tryz.prog 43 #[insV m v] w fun e w'=>e=.returned (.bool R)∧Below w.heap.size w w':=by
 have hf:=fun X (hb:Below w.heap.size w X)=>find7_any m v l X (hT.below hb) (hr.below hb) hl
 unfold FindRes at hf
 obtain ⟨F,hF⟩:∃ F,findI (m,l)=F:=⟨_,rfl⟩
 simp only [hF] at hf hR
 obtain ⟨fo,fc⟩:=F
 dsimp only at hf hR
 obtain ⟨E,hE⟩:∃ E,fo.getD ent0=E:=⟨_,rfl⟩
 simp only [hE] at hf
 obtain ⟨page,op,mn,args,ex,al⟩:=E
 have hf2:∀ X,Below w.heap.size w X→Calls Tryz.prog 16 #[insV m v] X fun e w'=>∃ v,e=.returned (.tuple #[.agg #[.int .i64 page,.int .u8 op,.string ⟨mn.toArray⟩,v,.string ⟨ex.toArray⟩,.bool al],.int .i64 fc])∧Row w' v args.length (opc args)∧Below X.heap.size X w':=hf
 have HF:=Hh hf2
 have hRR:(fc != 0)=R:=by rw [←hR]; by_cases h:fc=0<;>simp [h]
 obtain ⟨a,c,rfl,_,_⟩:=hr
 clear hf hf2 hF hE hR hT
 cases R with
 | false =>
   have hfc:fc=0:=by simpa using hRR
   subst hfc
   clear hRR
   go_enter Tryz.func43,Tryz.ntmps43
   go_wp2_with fail
   have hbW:Below w.heap.size w (w.alloc (.cells #[.string ⟨m.toArray⟩,.slice a l.length c] 24)):=(Below.refl _ _).alloc (Nat.le_refl _) _
   (with_reducible refine (HF.out _ hbW).mono ?_)
   rintro e w2 ⟨v2,rfl,hr2,hb2⟩
   obtain ⟨a2,c2,rfl,_,_⟩:=hr2
   have HB:=Hh (hbW.trans (hb2.mono hbW.size))
   clear hbW hb2
   go_wp2_with fail
   go_ret
   exact ⟨rfl,HB.out.alloc HB.out.size _⟩
 | true =>
   go_enter Tryz.func43,Tryz.ntmps43
   go_wp2_with fail
   have hbW:Below w.heap.size w (w.alloc (.cells #[.string ⟨m.toArray⟩,.slice a l.length c] 24)):=(Below.refl _ _).alloc (Nat.le_refl _) _
   (with_reducible refine (HF.out _ hbW).mono ?_)
   rintro e w2 ⟨v2,rfl,hr2,hb2⟩
   obtain ⟨a2,c2,rfl,_,_⟩:=hr2
   have HB:=Hh (hbW.trans (hb2.mono hbW.size))
   clear hbW hb2
   go_wp2_with fail
   go_ret
   exact ⟨rfl,HB.out.alloc HB.out.size _⟩
theorem t127_0 {p:Prop} (h:p:=by
 go_enter Tryz.func11,Tryz.ntmps11
 go_wp2_with fail
 refine HC.out.mono ?_
 rintro e w1 ⟨rfl,hb⟩
 have HB:=Hh hb; clear hb
 go_wp2_with fail
 go_ret
 exact ⟨rfl,HB.out⟩):p:=h
set_option maxHeartbeats 1000000 in
theorem legal_any (m:List UInt8) (v:Value) (l:List Op3) (g:Nat) (w:World) (hT:TabsA w) (h1:Row w (.slice (some ⟨g,0,none⟩) 1 1) 1 [.string ⟨m.toArray⟩,v]) (hr:Row w v l.length (opc l)) (hl:l.length≤1000) :
 Calls Tryz.prog 11 #[.slice (some ⟨g,0,none⟩) 1 1] w fun e w'=>e=.returned (.bool (decide ((findI (m,l)).2=0)))∧Below w.heap.size w w':=by
 have hc:=containsFuncI _ 43 #[] g m v w h1 (enters_of Tryz.func43 (by kernel_rfl) rfl) (legal1_any m v l w hT hr hl _ rfl)
 have e:decide ((findI (m,l)).2=0)=!decide ((findI (m,l)).2≠0):=by by_cases h:(findI (m,l)).2=0<;>simp [h]
 rw [e]
 obtain ⟨R,hR⟩:∃ R,decide ((findI (m,l)).2≠0)=R:=⟨_,rfl⟩
 rw [hR] at hc ⊢
 have HC:=Hh hc; clear hc hR e h1 hr
 cases R with
 | false =>
   exact t127_0
 | true =>
   exact t127_0
end Go.Proofs.YtkldoojonnkfgaaGreatDoor
namespace Go.Proofs.YtkldoojonnkfgaaGreatDoor
open Go.RowKit Go.Sort
def showP (i:Ins2):ByteArray:=if (findI i).2=0 then ⟨(Lib.trimSuffix ((⟨i.1.toArray⟩:ByteArray)++⟨#[32]⟩++listS (canonP i).2).data.toList [32]).toArray⟩ else ⟨#[]⟩
theorem t128_0 {p:Prop} (h:p:=by
 have:=row_struct (w.alloc (.cells #[.string ⟨m.toArray⟩,.slice a l.length c] 24)) [.string ⟨m.toArray⟩,.slice a l.length c] 1 24
 rwa [World.size_alloc] at this):p:=h
set_option maxRecDepth 100000 in
set_option maxHeartbeats 4000000 in
theorem show_any (m:List UInt8) (v:Value) (l:List Op3) (w:World) (hT:TabsA w) (hr:Row w v l.length (opc l)) (hl:l.length≤900) (hm:m.length≤1000) (hsz:(listS (canonP (m,l)).2).size≤1000000) :
 Calls Tryz.prog 10 #[insV m v] w fun e w'=>e=.returned (.string (showP (m,l)))∧Below w.heap.size w w':=by
 have hlg:=fun g X (hb:Below w.heap.size w X) h1=>legal_any m v l g X (hT.below hb) h1 (hr.below hb) (by omega)
 have hof:=fun X (hb:Below w.heap.size w X)=>of_any m v l X (hT.below hb) (hr.below hb) hl
 have hcl:(canonP (m,l)).2.length≤l.length+1:=canonP_len (m,l)
 unfold showP
 obtain ⟨C,hC⟩:∃ C,(canonP (m,l)).2=C:=⟨_,rfl⟩
 rw [hC] at hof hcl hsz ⊢
 dsimp only
 have hls:=fun X vc (hb:Below w.heap.size w X) h=>list_any vc C X h (by omega) (hT.below hb).t
 obtain ⟨S,hS⟩:∃ S,listS C=S:=⟨_,rfl⟩
 rw [hS] at hls hsz ⊢
 have hsz2:((⟨m.toArray⟩:ByteArray)++⟨#[32]⟩++S).size≤9223372036854775807:=by
  rw [ByteArray.size_append,ByteArray.size_append]
  have h1:(⟨m.toArray⟩:ByteArray).size=m.length:=by show m.toArray.size=_; rw [List.size_toArray]
  have h2:(⟨#[32]⟩:ByteArray).size=1:=rfl
  omega
 have HSZ:=Hh hsz2; clear hsz2
 have HLG:=Hh hlg; have HOF:=Hh hof; have HLS:=Hh hls
 clear hlg hof hls hC hS
 obtain ⟨a,c,rfl,_,_⟩:=hr
 by_cases hf:(findI (m,l)).2=0
 · rw [if_pos hf]
   have hlg2:=HLG.out
   rw [decide_eq_true hf] at hlg2
   have HL2:=Hh hlg2; clear hlg2 HLG hf
   go_enter Tryz.func10,Tryz.ntmps10
   go_wp2_with fail
   have hbW:Below w.heap.size w ((w.alloc (.cells #[.string ⟨m.toArray⟩,.slice a l.length c] 24)).alloc (.cells #[.string ⟨m.toArray⟩,.slice a l.length c] 24)):=bl
   have hrow:Row ((w.alloc (.cells #[.string ⟨m.toArray⟩,.slice a l.length c] 24)).alloc (.cells #[.string ⟨m.toArray⟩,.slice a l.length c] 24)) (.slice (some ⟨w.heap.size+1,0,none⟩) 1 1) 1 [.string ⟨m.toArray⟩,.slice a l.length c]:=by
    exact t128_0
   (with_reducible refine (HL2.out _ _ hbW hrow).mono ?_)
   rintro e w2 ⟨rfl,hb2⟩
   have h0:=blk_below (blk_alloc (o':=.cells #[.string ⟨m.toArray⟩,.slice a l.length c] 24) (blk_new w (.cells #[.string ⟨m.toArray⟩,.slice a l.length c] 24))) hb2 (by simp; omega)
   obtain ⟨k0,k1,_,_⟩:=cells2 h0
   have hl2:=blk_lt h0
   have HB:=Hh (hbW.trans (hb2.mono hbW.size))
   clear hbW hrow hb2 h0
   go_wp2_with fail
   (with_reducible refine (HOF.out _ HB.out).mono ?_)
   rintro e w3 ⟨v3,rfl,hr3,hb3⟩
   obtain ⟨a3,c3,hv3,_,_⟩:=hr3.op
   subst hv3
   have hrow3:=hr3.row
   have HB3:=Hh (HB.out.trans (hb3.mono HB.out.size))
   clear hb3 hr3 k0 k1 hl2
   go_wp2_with fail
   obtain ⟨W,hW⟩:∃ W,(w3.alloc (.cells #[.string ⟨m.toArray⟩,.slice a3 C.length c3] 24))=W:=⟨_,rfl⟩
   have hal:Below w3.heap.size w3 W:=by rw [←hW]; exact (Below.refl _ _).alloc (Nat.le_refl _) _
   have hbk:W.heap[w3.heap.size]? = some (.cells #[.string ⟨m.toArray⟩,.slice a3 C.length c3] 24 (0,0)):=by rw [←hW]; exact blk_new _ _
   rw [hW]
   clear hW
   obtain ⟨t0,t1,_,_⟩:=cells2 hbk
   have hlW:=blk_lt hbk
   have HBW:=Hh (HB3.out.trans (hal.mono HB3.out.size))
   have hls2:=fun p=>HLS.out (gw W p) (.slice a3 C.length c3) (HBW.out.trans ((below_gw W p).mono HBW.out.size)) ((hrow3.below hal).below (below_gw W p))
   have HLS2:=Hh hls2
   have htr:=fun p=>Tryz.strings_TrimSuffix ((⟨m.toArray⟩:ByteArray)++⟨#[32]⟩++S) ⟨#[32]⟩ (gw W p) HSZ.out
   have HTR:=Hh htr
   clear hls2 htr hal hbk hrow3
   refine wp_region_gw (by kernel_rfl) (by kernel_rfl) ?_
   repeat (go_big_quiet_step (first | exact gw_quiet (HLS2.out _) | exact gw_quiet_same (by refine (HTR.out _).mono ?_; rintro e w' ⟨h1,h2⟩; exact ⟨h1,h2.symm⟩)))
   refine wpQuiet_nil ?_
   rintro W3 ⟨p3,hW3⟩
   have hb3:Below W.heap.size W W3:=by rw [hW3]; (repeat (first | exact Below.refl _ _ | refine Below.drew ?_ | (refine below_gw' ?_ (by first | omega | (simp [go_sem]; done) | (simp [go_sem]; omega)) _) | (refine Below.alloc ?_ (by first | omega | (simp [go_sem]; done) | (simp [go_sem]; omega)) _) | (refine Below.setCell ?_ (by first | omega | (simp [go_sem]; done) | (simp [go_sem]; omega)) _)))
   clear hW3 p3
   have HB4:=Hh (HBW.out.trans (hb3.mono HBW.out.size))
   clear hb3
   go_wp2_with fail
   go_ret
   exact ⟨rfl,HB4.out⟩
 · rw [if_neg hf]
   have hlg2:=HLG.out
   rw [decide_eq_false hf] at hlg2
   have HL2:=Hh hlg2; clear hlg2 HLG hf
   go_enter Tryz.func10,Tryz.ntmps10
   go_wp2_with fail
   have hbW:Below w.heap.size w ((w.alloc (.cells #[.string ⟨m.toArray⟩,.slice a l.length c] 24)).alloc (.cells #[.string ⟨m.toArray⟩,.slice a l.length c] 24)):=bl
   have hrow:Row ((w.alloc (.cells #[.string ⟨m.toArray⟩,.slice a l.length c] 24)).alloc (.cells #[.string ⟨m.toArray⟩,.slice a l.length c] 24)) (.slice (some ⟨w.heap.size+1,0,none⟩) 1 1) 1 [.string ⟨m.toArray⟩,.slice a l.length c]:=by
    exact t128_0
   (with_reducible refine (HL2.out _ _ hbW hrow).mono ?_)
   rintro e w2 ⟨rfl,hb2⟩
   have HB:=Hh (hbW.trans (hb2.mono hbW.size))
   clear hbW hrow hb2
   go_wp2_with fail
   go_ret
   exact ⟨rfl,HB.out⟩
end Go.Proofs.YtkldoojonnkfgaaGreatDoor
namespace Go.Proofs.YtkldoojonnkfgaaGreatDoor
open Go.RowKit Go.Sort
theorem shapesKT_eq (op:List UInt8) (a:Ar):shapesP op a=shapesKT op (kt a):=rfl
theorem choicesKT_eq (op:List UInt8):∀ l:List Ar,choicesP op l=choicesKT op (l.map kt)
 | []=>rfl
 | a::l=>by
   rw [List.map_cons]
   unfold choicesP choicesKT
   rw [shapesKT_eq,choicesKT_eq op l]
theorem scan_hit_of {f:Ent→Bool} {c:Ins2}:∀ (l:List Ent) (code:Int),(∃ e∈l,e.alias=false∧shapedP e c=true∧f e=true)→∃ d∈l,scanC f c l code=(some d,0)∧d.alias=false∧shapedP d c=true∧f d=true
 | [],_,⟨_,h,_⟩=>by cases h
 | e::l,code,⟨x,hx,h1,h2,h3⟩=>by
   by_cases hs:(e.alias || !shapedP e c)=true
   · rw [scan_skip hs]
     have hne:x≠e:=by
      rintro rfl
      rw [h1,h2] at hs
      exact absurd hs (by decide)
     have hxl:x∈l:=by
      rcases List.mem_cons.1 hx with h | h
      · exact absurd h hne
      · exact h
     obtain ⟨d,hd,q⟩:=scan_hit_of l code ⟨x,hxl,h1,h2,h3⟩
     exact ⟨d,List.mem_cons_of_mem _ hd,q⟩
   · have hs2:(e.alias || !shapedP e c)=false:=by simpa using hs
     have hs3:=hs2
     rw [Bool.or_eq_false_iff] at hs3
     cases hf:f e with
     | true=>exact ⟨e,List.mem_cons_self,scan_hit hs2 hf l code,hs3.1,by simpa using hs3.2,hf⟩
     | false =>
       rw [scan_miss hs2 hf]
       have hne:x≠e:=by
        rintro rfl
        rw [h3] at hf
        cases hf
       have hxl:x∈l:=by
        rcases List.mem_cons.1 hx with h | h
        · exact absurd h hne
        · exact h
       obtain ⟨d,hd,q⟩:=scan_hit_of l 2 ⟨x,hxl,h1,h2,h3⟩
       exact ⟨d,List.mem_cons_of_mem _ hd,q⟩
theorem scan_zero {f:Ent→Bool} {c:Ins2}:∀ (l:List Ent) (code:Int),code≠0→(scanC f c l code).2=0→∃ d∈l,scanC f c l code=(some d,0)∧d.alias=false∧shapedP d c=true∧f d=true
 | [],code,h,h2=>absurd h2 h
 | e::l,code,h,h2=>by
   by_cases hs:(e.alias || !shapedP e c)=true
   · rw [scan_skip hs] at h2 ⊢
     obtain ⟨d,hd,q⟩:=scan_zero l code h h2
     exact ⟨d,List.mem_cons_of_mem _ hd,q⟩
   · have hs2:(e.alias || !shapedP e c)=false:=by simpa using hs
     have hs3:=hs2
     rw [Bool.or_eq_false_iff] at hs3
     cases hf:f e with
     | true=>exact ⟨e,List.mem_cons_self,scan_hit hs2 hf l code,hs3.1,by simpa using hs3.2,hf⟩
     | false =>
       rw [scan_miss hs2 hf] at h2 ⊢
       obtain ⟨d,hd,q⟩:=scan_zero l 2 (by decide) h2
       exact ⟨d,List.mem_cons_of_mem _ hd,q⟩
theorem pagesR_lt {l:List Op3} {p:Nat} (h:p∈pagesR l):p<7:=by
 unfold pagesR at h
 split at h
 · simp at h; omega
 · simp at h; omega
theorem findI_zero {i:Ins2} (h:(findI i).2=0):checkP i=0∧∃ (p op:Nat) (e:Ent),p<7∧op<256∧(atP p op).1=some e∧findI i=(some e,0)∧e.alias=false∧shapedP e (canonP i)=true∧fitsR e (canonP i)=true:=by
 rw [find_both] at h ⊢
 unfold findR at h ⊢
 by_cases hc:checkP i=0
 · rw [if_pos hc] at h ⊢
   refine ⟨hc,?_⟩
   unfold entryR at h ⊢
   obtain ⟨d,hd,h1,h2,h3,h4⟩:=scan_zero _ 11 (by decide) h
   obtain ⟨p,hp,hd⟩:=List.mem_flatMap.1 hd
   obtain ⟨op,ho,hop⟩:=entsL_mem.1 hd
   exact ⟨p,op,d,pagesR_lt hp,ho,hop,h1,h2,h3,h4⟩
 · rw [if_neg hc] at h
   exact absurd h hc
theorem group_mem {mn:List UInt8} {r:ZRow} (h:r∈groupOf mn):∃ g∈zeds,g.1=mn∧groupOf mn=g.2:=by
 unfold groupOf at h ⊢
 cases hf:zeds.find? fun g=>g.1 == mn with
 | none=>rw [hf] at h; cases h
 | some g =>
   have h1:=List.find?_some hf
   exact ⟨g,List.mem_of_find?_eq_some hf,by simpa using h1,rfl⟩
theorem cover_of {p op:Nat} {e:Ent} (hp:p<7) (ho:op<256) (he:(atP p op).1=some e) (hal:e.alias=false):(∃ r∈groupOf e.mn,r.page=e.page∧r.args=zeroAll e.args∧r.extra=e.extra)∧opsGood e=true:=by
 have h:=covers ⟨p,hp⟩ ⟨op,ho⟩
 simp only [he] at h
 unfold coverE at h
 rw [hal,Bool.false_or,Bool.false_or,Bool.and_eq_true,List.any_eq_true] at h
 obtain ⟨⟨r,hr,h1⟩,h2⟩:=h
 simp only [Bool.and_eq_true,decide_eq_true_eq] at h1
 exact ⟨⟨r,hr,h1.1.1,h1.1.2,h1.2⟩,h2⟩
theorem real_of {mn:List UInt8} {r:ZRow} (h:r∈groupOf mn):∃ e,r.page<7∧r.op<256∧(atP r.page r.op).1=some e∧e.alias=false∧e.mn=mn∧e.args=r.args∧e.extra=r.extra∧e.page=r.page∧zeroAll r.args=r.args:=by
 obtain ⟨g,hg,hm,hgr⟩:=group_mem h
 have hz:=zeds_real
 rw [List.all_eq_true] at hz
 have hz:=hz g hg
 rw [List.all_eq_true] at hz
 have hz:=hz r (by rw [←hgr]; exact h)
 unfold realZ at hz
 simp only [Bool.and_eq_true,decide_eq_true_eq] at hz
 obtain ⟨⟨h1,h2⟩,h3⟩:=hz
 cases he:(atP r.page r.op).1 with
 | none=>rw [he] at h3; cases h3
 | some e =>
   rw [he] at h3
   simp only [Bool.and_eq_true,decide_eq_true_eq,Bool.not_eq_true'] at h3
   obtain ⟨⟨⟨⟨⟨q1,q2⟩,q3⟩,q4⟩,q5⟩,q6⟩:=h3
   exact ⟨e,h1,h2,rfl,q1,q2.trans hm,q3,q4,q5,q6⟩
theorem row_uniq {mn:List UInt8} {r r':ZRow} (h:r∈groupOf mn) (h':r'∈groupOf mn) (he:r.args=r'.args):r=r':=by
 obtain ⟨g,hg,hm,hgr⟩:=group_mem h
 have hz:=zeds_diff
 rw [List.all_eq_true] at hz
 have hz:=hz g hg
 rw [decide_eq_true_eq] at hz
 rw [hgr] at h h'
 obtain ⟨a,ha,rfl⟩:=List.getElem_of_mem h
 obtain ⟨b,hb,rfl⟩:=List.getElem_of_mem h'
 have hab:a=b:=by
  have h1:(g.2.map (·.args))[a]'(by simpa using ha)=(g.2.map (·.args))[b]'(by simpa using hb):=by
   rw [List.getElem_map,List.getElem_map]
   exact he
  exact (List.getElem_inj hz).1 h1
 subst hab
 rfl
theorem mn_of {mn:List UInt8} {r:ZRow} (h:r∈groupOf mn):mn∈opsL∧upper ⟨mn.toArray⟩=⟨mn.toArray⟩∧WordOk ⟨mn.toArray⟩∧mn.length≤100:=by
 obtain ⟨g,hg,rfl,hgr⟩:=group_mem h
 have hz:=zeds_mn
 rw [List.all_eq_true] at hz
 have hz:=hz g hg
 simp only [Bool.and_eq_true,decide_eq_true_eq,beq_iff_eq] at hz
 exact ⟨hz.1.1.1,ba_of hz.1.1.2,wordB_ok hz.1.2,hz.2⟩
theorem zeroAll_shape {a b:List Op3} (h:shapeOf a=shapeOf b):zeroAll a=zeroAll b:=by
 have e:∀ l:List Op3,zeroAll l=(shapeOf l).map fun x=>(x.1,x.2,0):=fun l=>by unfold zeroAll shapeOf zeroO; simp
 rw [e,e,h]
theorem row_find {mn:List UInt8} {r:ZRow} {c:List Op3} (hr:r∈groupOf mn) (hc:checkP (mn,c)=0) (ha:r.args=(canonP (mn,c)).2):∃ d,findI (mn,c)=(some d,0)∧d.page=r.page∧d.extra=r.extra:=by
 obtain ⟨e,hp,ho,he,hal,hmn,hea,hex,hpg,hz⟩:=real_of hr
 have hok:=ent_ok hp ho he
 have hcm:(canonP (mn,c)).1=mn:=rfl
 obtain ⟨C,hC⟩:∃ C,canonP (mn,c)=C:=⟨_,rfl⟩
 rw [hC] at ha hcm
 have hsh:shapedP e C=true:=by unfold shapedP; rw [hmn,hcm,hea,ha]; simp
 have hfit:fitsR e C=true:=by
  unfold fitsR
  rw [hsh,Bool.true_and,List.all_eq_true]
  intro k _
  unfold okR
  split
  · rw [hea,ha]; simp
  · have hn:numAt C.2 k=0:=by
     rw [←ha,←hz]
     unfold numAt zeroAll zeroO
     simp only [List.getD,List.getElem?_map]
     cases r.args[k]? <;> rfl
    rw [hn]
    unfold withinP
    split
    · decide
    · split<;>decide
 have hmem:e∈(pagesR C.2).flatMap entsL:=by
  rw [List.mem_flatMap]
  refine ⟨r.page,?_,entsL_mem.2 ⟨r.op,ho,he⟩⟩
  unfold entOk at hok
  simp only [Bool.and_eq_true] at hok
  obtain ⟨⟨⟨⟨⟨⟨_,h1⟩,_⟩,_⟩,_⟩,_⟩,_⟩:=hok
  rw [hea,ha] at h1
  unfold pagesR
  by_cases h35:r.page=3∨r.page=5
  · rw [if_pos h35,Bool.and_eq_true] at h1
    rw [if_pos h1.1]
    rcases h35 with h | h<;>rw [h]<;>decide
  · rw [if_neg h35] at h1
    by_cases h46:r.page=4∨r.page=6
    · rw [if_pos h46,Bool.and_eq_true] at h1
      rw [if_pos h1.1]
      rcases h46 with h | h<;>rw [h]<;>decide
    · rw [if_neg h46,List.all_eq_true] at h1
      rw [if_neg]
      · have:r.page=0∨r.page=1∨r.page=2:=by omega
        rcases this with h | h | h<;>rw [h]<;>decide
      · intro hx
        rw [List.any_eq_true] at hx
        obtain ⟨o,ho1,ho2⟩:=hx
        have:=h1 o ho1
        rw [ho2] at this
        cases this
 rw [find_both]
 unfold findR
 rw [if_pos hc,hC]
 unfold entryR
 obtain ⟨d,hd,h1,h2,h3,h4⟩:=scan_hit_of (f:=fun e=>fitsR e C) (c:=C) _ 11 ⟨e,hmem,hal,hsh,hfit⟩
 refine ⟨d,h1,?_⟩
 obtain ⟨p2,hp2,hd⟩:=List.mem_flatMap.1 hd
 obtain ⟨op2,ho2,hop2⟩:=entsL_mem.1 hd
 obtain ⟨⟨r2,hr2,q1,q2,q3⟩,_⟩:=cover_of (pagesR_lt hp2) ho2 hop2 h2
 unfold shapedP at h3
 simp only [Bool.and_eq_true,decide_eq_true_eq] at h3
 rw [h3.1,hcm] at hr2
 have e2:r2.args=r.args:=by
  rw [q2,zeroAll_shape h3.2,←ha,hz]
 have:=row_uniq hr2 hr e2
 subst this
 exact ⟨q1.symm,q3.symm⟩
theorem legal_row {mn:List UInt8} {c:List Op3} (hz:zeroAll (canonP (mn,c)).2=(canonP (mn,c)).2):legalP (mn,c)=goodC mn (groupOf mn) c:=by
 rw [Bool.eq_iff_iff]
 unfold legalP goodC
 rw [decide_eq_true_eq,Bool.and_eq_true,decide_eq_true_eq,List.any_eq_true]
 constructor
 · intro h
   obtain ⟨hc,p,op,e,hp,ho,he,_,hal,hsh,_⟩:=findI_zero h
   refine ⟨?_,hc⟩
   obtain ⟨⟨r,hr,_,q2,_⟩,_⟩:=cover_of hp ho he hal
   unfold shapedP at hsh
   simp only [Bool.and_eq_true,decide_eq_true_eq] at hsh
   have hm:e.mn=mn:=hsh.1
   rw [hm] at hr
   exact ⟨r,hr,by rw [q2,zeroAll_shape hsh.2,hz,decide_eq_true_eq]⟩
 · rintro ⟨⟨r,hr,ha⟩,hc⟩
   obtain ⟨d,hd,_⟩:=row_find hr hc (by simpa using ha)
   rw [hd]
theorem zero_acc {mn:List UInt8} {c:List Op3} (h:∀ o∈c,o.2.2=0):zeroAll (canonP (mn,c)).2=(canonP (mn,c)).2:=by
 have hx:∀ o∈(canonP (mn,c)).2,o.2.2=0:=by
  intro o ho
  unfold canonP at ho
  obtain ⟨x,hx,rfl⟩:=List.mem_map.1 ho
  have h0:x.2.2=0:=by
   rcases accP_mem (exP_mem hx) with rfl | hx
   · rfl
   · exact h x hx
  unfold posP
  rw [if_neg (by rw [h0]; intro h; exact absurd h.2.1 (by decide))]
  exact h0
 unfold zeroAll
 conv=>rhs; rw [←List.map_id (canonP (mn,c)).2]
 apply List.map_congr_left
 intro o ho
 have:=hx o ho
 obtain ⟨a,b,n⟩:=o
 dsimp only at this
 subst this
 rfl
theorem shapes_zero {op:List UInt8} {a:Int × ByteArray} {o:Op3} (h:o∈shapesKT op a):o.2.2=0:=by
 unfold shapesKT at h
 split at h
 · unfold namedO at h
   obtain ⟨x,_,rfl⟩:=List.mem_map.1 h
   rfl
 · split at h
   · split at h
     · simp at h; rcases h with rfl | rfl<;>rfl
     · simp at h; subst h; rfl
   · split at h
     · simp at h; subst h; rfl
     · split at h
       · split at h
         · simp at h; subst h; rfl
         · simp at h; subst h; rfl
       · split at h
         · simp at h; subst h; rfl
         · cases h
theorem choices_zero {op:List UInt8}:∀ (l:List (Int × ByteArray)) (c:List Op3),c∈choicesKT op l→∀ o∈c,o.2.2=0
 | [],c,h,o,ho=>by
   simp [choicesKT] at h
   subst h
   cases ho
 | a::l,c,h,o,ho=>by
   unfold choicesKT at h
   obtain ⟨x,hx,h⟩:=List.mem_flatMap.1 h
   obtain ⟨c2,hc2,rfl⟩:=List.mem_map.1 h
   rcases List.mem_cons.1 ho with rfl | ho
   · exact shapes_zero hx
   · exact choices_zero l c2 hc2 o ho
theorem find_congr {α:Type} {f g:α→Bool}:∀ l:List α,(∀ x∈l,f x=g x)→l.find? f=l.find? g
 | [],_=>rfl
 | a::l,h=>by
   rw [List.find?_cons,List.find?_cons,h a List.mem_cons_self,find_congr l fun x hx=>h x (List.mem_cons_of_mem _ hx)]
theorem zed_choose {p op:Nat} {e:Ent} (hp:p<7) (ho:op<256) (he:(atP p op).1=some e) (hal:e.alias=false) (l:List Ar) (hl:l.map kt=e.args.map arKT) :
 ∃ x,chooseP e.mn l=(x,0)∧x.1=e.mn∧x.2.length=e.args.length∧∃ d,findI x=(some d,0)∧(d.page=e.page∨x.2.length=0)∧d.extra=e.extra:=by
 obtain ⟨⟨r,hr,q1,q2,q3⟩,_⟩:=cover_of hp ho he hal
 obtain ⟨hmo,hup,_,_⟩:=mn_of hr
 obtain ⟨g,hg,hgm,hgr⟩:=group_mem hr
 have hk:=zeds_chk
 rw [List.all_eq_true] at hk
 have hk:=hk g hg
 rw [List.all_eq_true] at hk
 have hk:=hk r (by rw [←hgr]; exact hr)
 rw [←hgr,hgm] at hk
 have hza:r.args.map arKT=l.map kt:=by
  rw [hl,q2]
  unfold zeroAll
  rw [List.map_map]
  rfl
 have hlen:r.args.length=e.args.length:=by rw [q2]; unfold zeroAll; simp
 unfold chkRow at hk
 rw [hza,←choicesKT_eq] at hk
 have hfind:(choicesP e.mn l).find? (fun c=>legalP (e.mn,c))=(choicesP e.mn l).find? (goodC e.mn (groupOf e.mn)):=by
  apply find_congr
  intro c hc
  rw [choicesKT_eq] at hc
  exact legal_row (zero_acc (choices_zero _ c hc))
 cases hf:(choicesP e.mn l).find? (goodC e.mn (groupOf e.mn)) with
 | none=>rw [hf] at hk; cases hk
 | some c =>
   rw [hf] at hk
   simp only [Bool.and_eq_true,decide_eq_true_eq] at hk
   obtain ⟨⟨k1,k2⟩,k3⟩:=hk
   have hch:chooseP e.mn l=(canonP (e.mn,c),0):=by
    unfold chooseP
    rw [if_neg (by rw [hup,ByteArray.toList_eq]; simp [hmo]),hfind,hf]
   refine ⟨_,hch,rfl,by rw [k1,hlen],?_⟩
   obtain ⟨x,hx⟩:∃ x,canonP (e.mn,c)=x:=⟨_,rfl⟩
   have hxm:x.1=e.mn:=by rw [←hx]; rfl
   rw [hx] at k1 k2 k3 ⊢
   cases hf2:(groupOf e.mn).find? fun r=>decide (r.args=(canonP x).2) with
   | none=>rw [hf2] at k3; cases k3
   | some d =>
     rw [hf2] at k3
     simp only [Bool.and_eq_true,Bool.or_eq_true,decide_eq_true_eq] at k3
     have hdm:=List.mem_of_find?_eq_some hf2
     have hda:=List.find?_some hf2
     simp only [decide_eq_true_eq] at hda
     obtain ⟨x1,x2⟩:=x
     dsimp only at hxm
     subst hxm
     obtain ⟨d2,h1,h2,h3⟩:=row_find hdm k2 hda
     refine ⟨d2,h1,?_,by rw [h3,k3.2,q3]⟩
     rcases k3.1 with h | h
     · left; rw [h2,h,q1]
     · right; rw [k1,h]
theorem valid_num {k r n m:Int} (h:opValid k r n=true) (h1:klo k.toNat≤m) (h2:m≤khi k.toNat):opValid k r m=true:=by
 unfold opValid at h ⊢
 simp only [Bool.and_eq_true,decide_eq_true_eq] at h ⊢
 exact ⟨⟨h.1.1,h1⟩,h2⟩
theorem ops_good {e:Ent} {c:Ins2} (hg:opsGood e=true) (hs:shapedP e c=true) (hf:fitsR e c=true):∀ o∈c.2,OpG o:=by
 intro o ho
 unfold shapedP at hs
 simp only [Bool.and_eq_true,decide_eq_true_eq] at hs
 have hlen:=shape_len hs.2
 have hsh:=shape_get hs.2
 obtain ⟨k,hk,hko⟩:=List.getElem_of_mem ho
 unfold opsGood at hg
 rw [List.all_eq_true] at hg
 have hg:=hg k (List.mem_range.2 (by omega))
 unfold fitsR at hf
 rw [Bool.and_eq_true,List.all_eq_true] at hf
 have hok:=hf.2 k (List.mem_range.2 hk)
 have hgd:c.2.getD k (0,0,0)=o:=by simp [List.getD,List.getElem?_eq_getElem hk,hko]
 have hs1:=hsh k
 rw [hgd] at hs1
 obtain ⟨q,hq⟩:∃ q,e.args.getD k (0,0,0)=q:=⟨_,rfl⟩
 rw [hq] at hg hs1
 rw [Bool.and_eq_true] at hg
 obtain ⟨g1,g2⟩:=hg
 have hnc:numAt c.2 k=o.2.2:=by unfold numAt; rw [hgd]
 have hne:numAt e.args k=q.2.2:=by unfold numAt; rw [hq]
 unfold okR at hok
 rw [hnc,hne] at hok
 rw [hs1.1,hs1.2] at g1
 unfold OpG
 split at hok
 · rename_i h0
   rw [if_pos h0] at g2
   rw [decide_eq_true_eq] at hok g2
   rw [←hok,←hs1.1]
   refine ⟨by rw [hs1.1]; exact g1,fun h6=>?_⟩
   rcases g2 with h | h
   · exact absurd h6 h
   · exact h
 · rename_i h0
   rw [if_neg h0] at g2
   unfold withinP at hok
   by_cases hcc:letterR e k=100∨letterR e k=101
   · rw [if_pos hcc,decide_eq_true_eq,hs1.1] at g2
     rw [if_pos hcc,Bool.and_eq_true,decide_eq_true_eq,decide_eq_true_eq] at hok
     refine ⟨valid_num g1 ?_ ?_,fun h6=>by omega⟩
     · rcases g2 with h | h<;>rw [h]<;>exact hok.1
     · rcases g2 with h | h<;>rw [h]<;>exact hok.2
   · rw [if_neg hcc,decide_eq_true_eq,hs1.1] at g2
     rw [if_neg hcc] at hok
     have hr:0≤o.2.2∧o.2.2≤65535:=by
      split at hok
      · rw [Bool.and_eq_true,decide_eq_true_eq,decide_eq_true_eq] at hok; omega
      · rw [Bool.and_eq_true,decide_eq_true_eq,decide_eq_true_eq] at hok; exact hok
     refine ⟨valid_num g1 ?_ ?_,fun _=>hr.1⟩
     · rcases g2 with h | h<;>rw [h]
       · show (-32768:Int)≤_; omega
       · exact hr.1
     · rcases g2 with h | h<;>rw [h]<;>exact hr.2
theorem shown_law (i:Ins2) (h:(findI i).2=0):0<(showP i).size∧∃ (e:Ent) (l:List Tok) (t:Tok),findI i=(some e,0)∧toksP (showP i)=.ok (⟨1,⟨i.1.toArray⟩,0,0⟩::(l++[t]))∧upper ⟨i.1.toArray⟩=⟨i.1.toArray⟩∧(argsP l).2=0 ∧
 ∃ x d,chooseP i.1 (argsP l).1=(x,0)∧x.1=e.mn∧x.2.length=e.args.length∧findI x=(some d,0)∧(d.page=e.page∨x.2.length=0)∧d.extra=e.extra:=by
 obtain ⟨hc,p,op,e,hp,ho,he,hfe,hal,hsh,hfit⟩:=findI_zero h
 obtain ⟨⟨r,hr,_⟩,hgood⟩:=cover_of hp ho he hal
 have hog:=ops_good hgood hsh hfit
 obtain ⟨_,h3,_⟩:=check_parts hc
 have hcl:=canonP_len i
 unfold shapedP at hsh
 simp only [Bool.and_eq_true,decide_eq_true_eq] at hsh
 have hmn:e.mn=i.1:=hsh.1
 obtain ⟨hmo,hup,hw,hml⟩:=mn_of hr
 rw [hmn] at hup hw hml
 have hS:showP i=⟨(Lib.trimSuffix ((⟨i.1.toArray⟩:ByteArray)++⟨#[32]⟩++listS (canonP i).2).data.toList [32]).toArray⟩:=by
  unfold showP
  rw [if_pos h]
 obtain ⟨h0,l,t,h1,h2,hk⟩:=show_toks i.1 (canonP i).2 hw hog hml (by omega) _ hS
 have hkt:(argsP l).1.map kt=e.args.map arKT:=by
  rw [hk]
  have e1:∀ m:List Op3,m.map arKT=(shapeOf m).map fun x=>arKT (x.1,x.2,0):=fun m=>by unfold shapeOf; rw [List.map_map]; rfl
  rw [e1,e1,hsh.2]
 obtain ⟨x,g1,g2,g3,d,g4,g5,g6⟩:=zed_choose hp ho he hal (argsP l).1 hkt
 rw [hmn] at g1
 exact ⟨h0,e,l,t,hfe,h1,hup,h2,x,d,g1,g2,g3,g4,g5,g6⟩
end Go.Proofs.YtkldoojonnkfgaaGreatDoor
namespace Go.Proofs.YtkldoojonnkfgaaGreatDoor
open Go.RowKit Go.Sort
def line18:ByteArray:=⟨#[40,73,88,43,49,41,44,32,99]⟩
def toks18:List Tok:=[⟨4,⟨#[40]⟩,0,0⟩,⟨1,⟨#[73,88]⟩,0,1⟩,⟨4,⟨#[43]⟩,0,3⟩,⟨2,⟨#[]⟩,1,4⟩,⟨4,⟨#[41]⟩,0,5⟩,⟨4,⟨#[44]⟩,0,6⟩,⟨1,⟨#[99]⟩,0,8⟩]
theorem toks18_eq:toksP line18=.ok (toks18++[⟨0,⟨#[]⟩,0,9⟩]):=by kernel_rfl
theorem args18:∃ x,argsP toks18=([⟨3,⟨#[73,88]⟩,some x⟩,⟨1,⟨#[67]⟩,none⟩],0):=by
 have hs:splitP toks18=[toks18.take 5,toks18.drop 6]:=by kernel_rfl
 obtain ⟨x,hx⟩:=parse_signed 43 1 3 4 (.inl rfl)
 have h1:argOf (toks18.take 5)=(⟨3,⟨#[73,88]⟩,some x⟩,0):=by
  have hin:innerP (toks18.take 5)=some [⟨1,⟨#[73,88]⟩,0,1⟩,⟨4,⟨#[43]⟩,0,3⟩,⟨2,⟨#[]⟩,1,4⟩]:=by kernel_rfl
  rw [argOf_long (by decide)]
  unfold argP1
  rw [hin]
  dsimp only
  rw [if_neg (by simp),if_pos ⟨by decide +kernel,by decide,by kernel_rfl⟩]
  exact expr_of hx
 have h2:argOf (toks18.drop 6)=(⟨1,⟨#[67]⟩,none⟩,0):=by
  have hw:wordAt (toks18.drop 6) 0=⟨#[67]⟩:=by kernel_rfl
  unfold argOf
  rw [hw,if_pos ⟨by decide,by decide +kernel⟩]
 refine ⟨x,?_⟩
 unfold argsP
 rw [hs]
 obtain ⟨a,b⟩:=args_cons (p:=toks18.drop 6) (ps:=[]) (by rw [h2]) rfl
 obtain ⟨a',b'⟩:=args_cons (p:=toks18.take 5) (ps:=[toks18.drop 6]) (by rw [h1]) a
 apply Prod.ext
 · rw [b',b,h1,h2]
   rfl
 · exact a'
def ops18:List Op3:=[(5,5,0),(1,1,0)]
theorem legal18:legalP ([76,68],ops18)=true:=by
 rw [legal_row (zero_acc (by decide))]
 decide +kernel
theorem choose18 (x:Ex):chooseP [76,68] [⟨3,⟨#[73,88]⟩,some x⟩,⟨1,⟨#[67]⟩,none⟩]=(([76,68],ops18),0):=by
 have hd:(choicesKT [76,68] [(3,⟨#[73,88]⟩),(1,⟨#[67]⟩)]).head? = some ops18:=by decide +kernel
 have hc:choicesP [76,68] [⟨3,⟨#[73,88]⟩,some x⟩,⟨1,⟨#[67]⟩,none⟩]=choicesKT [76,68] [(3,⟨#[73,88]⟩),(1,⟨#[67]⟩)]:=choicesKT_eq _ _
 unfold chooseP
 rw [if_neg (by decide +kernel),hc]
 cases hk:choicesKT [76,68] [(3,⟨#[73,88]⟩),(1,⟨#[67]⟩)] with
 | nil=>rw [hk] at hd; cases hd
 | cons c l =>
   rw [hk] at hd
   simp only [List.head?_cons,Option.some.injEq] at hd
   subst hd
   rw [List.find?_cons,legal18]
   dsimp only
   rw [show canonP ([76,68],ops18)=([76,68],ops18) by decide +kernel]
theorem show18:showP ([76,68],ops18)=⟨#[76,68,32,40,73,88,43,48,41,44,67]⟩:=by
 have h:=legal18
 unfold legalP at h
 unfold showP
 rw [if_pos (of_decide_eq_true h)]
 decide +kernel
end Go.Proofs.YtkldoojonnkfgaaGreatDoor
