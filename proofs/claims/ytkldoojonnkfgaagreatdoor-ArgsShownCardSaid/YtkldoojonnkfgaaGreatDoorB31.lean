/- Joined texts: Index. -/
import Derived.Test.YtkldoojonnkfgaaGreatDoorB05
namespace Go.Proofs.YtkldoojonnkfgaaGreatDoor
open Go.RowKit Go.Sort
def idxOps (i:Int):List (Int × Int × Int):=[(2,2 * (5+i - 5),0),(2,2 * (5+i - 5)+1,0),(3,5+i,0),(4,5+i,0),(5,5+i,0)]
def indexS (k r n:Int):Int :=
 if opValid k r n=false then 0 else if (k,r,(0:Int))∈idxOps 0 then 5 else if (k,r,(0:Int))∈idxOps 1 then 6 else 0
theorem idxOps_get (i:Int) (j:Nat) (hj:j<5):∃ x0 x1 x2:Int,(idxOps i)[j]? = some (x0,x1,x2):=by
 have:j=0∨j=1∨j=2∨j=3∨j=4:=by omega
 rcases this with rfl | rfl | rfl | rfl | rfl<;>exact ⟨_,_,_,rfl⟩
theorem idx_cells (i:Int) (j:Nat) (hj:j<5) (x0 x1 x2:Int) (h:(idxOps i)[j]? = some (x0,x1,x2)) (w:World) :
 (w.alloc (.cells #[.int .i64 2,.int .i64 (2 * (5+i - 5)),.int .i64 0,.int .i64 2,.int .i64 (2 * (5+i - 5)+1),.int .i64 0,.int .i64 3,.int .i64 (5+i),.int .i64 0,.int .i64 4,.int .i64 (5+i),.int .i64 0,.int .i64 5,.int .i64 (5+i),.int .i64 0] 172)).cell? ⟨w.heap.size,j * 3,none⟩=some (.int .i64 x0) ∧
 (w.alloc (.cells #[.int .i64 2,.int .i64 (2 * (5+i - 5)),.int .i64 0,.int .i64 2,.int .i64 (2 * (5+i - 5)+1),.int .i64 0,.int .i64 3,.int .i64 (5+i),.int .i64 0,.int .i64 4,.int .i64 (5+i),.int .i64 0,.int .i64 5,.int .i64 (5+i),.int .i64 0] 172)).cell? ⟨w.heap.size,j * 3+1,none⟩=some (.int .i64 x1) ∧
 (w.alloc (.cells #[.int .i64 2,.int .i64 (2 * (5+i - 5)),.int .i64 0,.int .i64 2,.int .i64 (2 * (5+i - 5)+1),.int .i64 0,.int .i64 3,.int .i64 (5+i),.int .i64 0,.int .i64 4,.int .i64 (5+i),.int .i64 0,.int .i64 5,.int .i64 (5+i),.int .i64 0] 172)).cell? ⟨w.heap.size,j * 3+2,none⟩=some (.int .i64 x2):=by
 rw [World.cell?_alloc_at _ _ _ _ rfl,World.cell?_alloc_at _ _ _ _ rfl,World.cell?_alloc_at _ _ _ _ rfl]
 have:j=0∨j=1∨j=2∨j=3∨j=4:=by omega
 rcases this with rfl | rfl | rfl | rfl | rfl<;>(simp [idxOps] at h; obtain ⟨rfl,rfl,rfl⟩:=h; exact ⟨rfl,rfl,rfl⟩)
set_option maxHeartbeats 1000000 in
set_option maxRecDepth 100000 in
theorem index_any (k r n:Int) (w:World) :
 Calls Tryz.prog 194 #[.agg #[.int .i64 k,.int .i64 r,.int .i64 n]] w fun e w'=>e=.returned (.int .i64 (indexS k r n))∧Below w.heap.size w w':=by
 rcases hv:opValid k r n with _ | _
 · have hr:indexS k r n=0:=by unfold indexS; rw [if_pos hv]
   rw [hr]
   have HV:=Hh hv; clear hv hr
   go_enter Tryz.func194,Tryz.ntmps194
   go_wp2_with fail
   refine (valid_any k r n _).mono ?_
   rintro e w1 ⟨rfl,hb⟩
   obtain ⟨p1,rfl⟩:=gw_of_below hb
   clear hb
   rw [HV.out]
   go_wp2_with fail
   go_ret
   exact ⟨rfl,bl⟩
 · have hr:indexS k r n=if (k,r,(0:Int))∈idxOps 0 then 5 else if (k,r,(0:Int))∈idxOps 1 then 6 else 0:=by unfold indexS; rw [if_neg (by rw [hv]; decide)]
   have HV:=Hh hv; clear hv
   have HR:=Hh hr; clear hr
   go_enter Tryz.func194,Tryz.ntmps194
   go_wp2_with fail
   refine (valid_any k r n _).mono ?_
   rintro e w1 ⟨rfl,hb⟩
   obtain ⟨p1,rfl⟩:=gw_of_below hb
   clear hb
   rw [HV.out]
   go_wp2_with fail
   go_loopw [13] (fun i wr=>∃ j:Nat,j≤2∧i=.int .i64 j∧Below w.heap.size w wr∧w.heap.size+1+p1.os.size<wr.heap.size ∧
    wr.cell? ⟨w.heap.size,0,none⟩=some (.int .i64 k)∧wr.cell? ⟨w.heap.size,1,none⟩=some (.int .i64 r)∧(∃ m,wr.cell? ⟨w.heap.size,2,none⟩=some (.int .i64 m))∧wr.frozen? ⟨w.heap.size,2,none⟩=false ∧
    wr.cell? ⟨w.heap.size+1+p1.os.size,0,none⟩=some (.int .i64 5)∧wr.cell? ⟨w.heap.size+1+p1.os.size,1,none⟩=some (.int .i64 6)∧(∀ i:Nat,i<j→(k,r,(0:Int))∉idxOps i))
    (fun i _=>2 - (intOf i).toNat)
   case atStart=>exact ⟨0,by omega,rfl,bl,by simp [go_sem],by simp [go_sem],by simp [go_sem],⟨n,by simp [go_sem]⟩,by simp [go_sem],by simp [go_sem],by simp [go_sem],by intro i hi; omega⟩
   case round =>
    obtain ⟨j,hj,rfl,hbel,hsz,c0,c1,⟨m,c2⟩,f2,s0,s1,hno⟩:=hrel
    by_cases hlt:j<2
    · have hs:wr.cell? ⟨w.heap.size+1+p1.os.size,j,none⟩=some (.int .i64 (5+(j:Int))):=by
       have:j=0∨j=1:=by omega
       rcases this with rfl | rfl
       · exact s0
       · exact s1
      have hN:w.heap.size<wr.heap.size:=by omega
      have HNO:=Hh hno; clear hno
      have HBEL:=Hh hbel; clear hbel
      have S0:=Hh s0; clear s0
      have S1:=Hh s1; clear s1
      go_wp2_with fail
      obtain ⟨wo,rfl⟩:∃ wo:World,wo=wr:=⟨_,rfl⟩
      have hb1:Below w.heap.size w ((wo.setCell ⟨w.heap.size,2,none⟩ (.int .i64 0)).alloc (.cells #[.int .i64 2,.int .i64 (2 * (5+(j:Int) - 5)),.int .i64 0,.int .i64 2,.int .i64 (2 * (5+(j:Int) - 5)+1),.int .i64 0,.int .i64 3,.int .i64 (5+(j:Int)),.int .i64 0,.int .i64 4,.int .i64 (5+(j:Int)),.int .i64 0,.int .i64 5,.int .i64 (5+(j:Int)),.int .i64 0] 172)) :=
       (HBEL.out.setCell (p:=⟨w.heap.size,2,none⟩) (Nat.le_refl _) _).alloc (by simp [World.setCell]; omega) _
      have hs1:((wo.setCell ⟨w.heap.size,2,none⟩ (.int .i64 0)).alloc (.cells #[.int .i64 2,.int .i64 (2 * (5+(j:Int) - 5)),.int .i64 0,.int .i64 2,.int .i64 (2 * (5+(j:Int) - 5)+1),.int .i64 0,.int .i64 3,.int .i64 (5+(j:Int)),.int .i64 0,.int .i64 4,.int .i64 (5+(j:Int)),.int .i64 0,.int .i64 5,.int .i64 (5+(j:Int)),.int .i64 0] 172)).heap.size=wo.heap.size+1:=by simp [go_sem,World.setCell]
      have hc0:∀ o,((wo.setCell ⟨w.heap.size,2,none⟩ (.int .i64 0)).alloc o).cell? ⟨w.heap.size,0,none⟩=some (.int .i64 k):=fun o=>by
       rw [World.cell?_alloc_past _ _ _ (by simp [World.setCell]; omega),World.cell?_setCell_other _ _ _ _ (by simp)]; exact c0
      have hc1:∀ o,((wo.setCell ⟨w.heap.size,2,none⟩ (.int .i64 0)).alloc o).cell? ⟨w.heap.size,1,none⟩=some (.int .i64 r):=fun o=>by
       rw [World.cell?_alloc_past _ _ _ (by simp [World.setCell]; omega),World.cell?_setCell_other _ _ _ _ (by simp)]; exact c1
      have hc2:∀ o,((wo.setCell ⟨w.heap.size,2,none⟩ (.int .i64 0)).alloc o).cell? ⟨w.heap.size,2,none⟩=some (.int .i64 0):=fun o=>by
       rw [World.cell?_alloc_past _ _ _ (by simp [World.setCell]; omega),World.cell?_setCell_same _ _ _ c2]
      have hf2:∀ o,((wo.setCell ⟨w.heap.size,2,none⟩ (.int .i64 0)).alloc o).frozen? ⟨w.heap.size,2,none⟩=false:=fun o=>by
       rw [World.frozen?_alloc_past _ _ _ (by simp [World.setCell]; omega),World.frozen?_setCell]; exact f2
      have hss:∀ o q x,wo.cell? ⟨w.heap.size+1+p1.os.size,q,none⟩=some x→((wo.setCell ⟨w.heap.size,2,none⟩ (.int .i64 0)).alloc o).cell? ⟨w.heap.size+1+p1.os.size,q,none⟩=some x:=fun o q x hx=>by
       rw [World.cell?_alloc_past _ _ _ (by simp [World.setCell]; omega),World.cell?_setCell_other _ _ _ _ (by simp)]; exact hx
      have hli:=fun q hq x0 x1 x2 h=>idx_cells (j:Int) q hq x0 x1 x2 h (wo.setCell ⟨w.heap.size,2,none⟩ (.int .i64 0))
      replace hc0:=hc0 (.cells #[.int .i64 2,.int .i64 (2 * (5+(j:Int) - 5)),.int .i64 0,.int .i64 2,.int .i64 (2 * (5+(j:Int) - 5)+1),.int .i64 0,.int .i64 3,.int .i64 (5+(j:Int)),.int .i64 0,.int .i64 4,.int .i64 (5+(j:Int)),.int .i64 0,.int .i64 5,.int .i64 (5+(j:Int)),.int .i64 0] 172)
      replace hc1:=hc1 (.cells #[.int .i64 2,.int .i64 (2 * (5+(j:Int) - 5)),.int .i64 0,.int .i64 2,.int .i64 (2 * (5+(j:Int) - 5)+1),.int .i64 0,.int .i64 3,.int .i64 (5+(j:Int)),.int .i64 0,.int .i64 4,.int .i64 (5+(j:Int)),.int .i64 0,.int .i64 5,.int .i64 (5+(j:Int)),.int .i64 0] 172)
      replace hc2:=hc2 (.cells #[.int .i64 2,.int .i64 (2 * (5+(j:Int) - 5)),.int .i64 0,.int .i64 2,.int .i64 (2 * (5+(j:Int) - 5)+1),.int .i64 0,.int .i64 3,.int .i64 (5+(j:Int)),.int .i64 0,.int .i64 4,.int .i64 (5+(j:Int)),.int .i64 0,.int .i64 5,.int .i64 (5+(j:Int)),.int .i64 0] 172)
      replace hf2:=hf2 (.cells #[.int .i64 2,.int .i64 (2 * (5+(j:Int) - 5)),.int .i64 0,.int .i64 2,.int .i64 (2 * (5+(j:Int) - 5)+1),.int .i64 0,.int .i64 3,.int .i64 (5+(j:Int)),.int .i64 0,.int .i64 4,.int .i64 (5+(j:Int)),.int .i64 0,.int .i64 5,.int .i64 (5+(j:Int)),.int .i64 0] 172)
      replace hss:=hss (.cells #[.int .i64 2,.int .i64 (2 * (5+(j:Int) - 5)),.int .i64 0,.int .i64 2,.int .i64 (2 * (5+(j:Int) - 5)+1),.int .i64 0,.int .i64 3,.int .i64 (5+(j:Int)),.int .i64 0,.int .i64 4,.int .i64 (5+(j:Int)),.int .i64 0,.int .i64 5,.int .i64 (5+(j:Int)),.int .i64 0] 172)
      have hs0':=hss 0 _ S0.out
      have hs1':=hss 1 _ S1.out
      rw [show (wo.setCell ⟨w.heap.size,2,none⟩ (.int .i64 0)).heap.size=wo.heap.size from by simp [World.setCell]] at hli
      clear hss
      generalize ((wo.setCell ⟨w.heap.size,2,none⟩ (.int .i64 0)).alloc (.cells #[.int .i64 2,.int .i64 (2 * (5+(j:Int) - 5)),.int .i64 0,.int .i64 2,.int .i64 (2 * (5+(j:Int) - 5)+1),.int .i64 0,.int .i64 3,.int .i64 (5+(j:Int)),.int .i64 0,.int .i64 4,.int .i64 (5+(j:Int)),.int .i64 0,.int .i64 5,.int .i64 (5+(j:Int)),.int .i64 0] 172))=W1 at hb1 hs1 hc0 hc1 hc2 hf2 hli hs0' hs1' ⊢
      generalize hwos:wo.heap.size=wz at hs1 hli hsz hN ⊢
      clear hs c0 c1 c2 f2 S0 S1 HBEL hwos
      have HS1:=Hh hs1; clear hs1
      have HLI:=Hh hli; clear hli
      have HB1:=Hh hb1; clear hb1
      have HS0':=Hh hs0'; clear hs0'
      have HS1':=Hh hs1'; clear hs1'
      have HF2:=Hh hf2; clear hf2
      have HC0:=Hh hc0; clear hc0
      have HC1:=Hh hc1; clear hc1
      have HC2:=Hh hc2; clear hc2
      go_loopw [34] (fun i wr=>∃ q:Nat,q≤5∧i=.int .i64 q∧Below W1.heap.size W1 wr∧(∀ q',q'<q→(idxOps j)[q']? ≠ some (k,r,0))) (fun i _=>5 - (intOf i).toNat)
      case atStart=>exact ⟨0,Nat.zero_le _,rfl,Below.refl _ _,by intro q hq; omega⟩
      case round =>
       obtain ⟨q,hq,rfl,hbq,hnq⟩:=hrel
       have HBQ:=Hh hbq; clear hbq
       have HNQ:=Hh hnq; clear hnq
       by_cases hlq:q<5
       · obtain ⟨x0,x1,x2,hx⟩:=idxOps_get (j:Int) q hlq
         obtain ⟨cx0,cx1,cx2⟩:=HLI.out q hlq x0 x1 x2 hx
         have hsz1:=HS1.out
         have d0:wr.cell? ⟨w.heap.size,0,none⟩=some (.int .i64 k):=(HBQ.out.cell (p:=⟨w.heap.size,0,none⟩) (by show w.heap.size<W1.heap.size; omega)).trans HC0.out
         have d1:wr.cell? ⟨w.heap.size,1,none⟩=some (.int .i64 r):=(HBQ.out.cell (p:=⟨w.heap.size,1,none⟩) (by show w.heap.size<W1.heap.size; omega)).trans HC1.out
         have d2:wr.cell? ⟨w.heap.size,2,none⟩=some (.int .i64 0):=(HBQ.out.cell (p:=⟨w.heap.size,2,none⟩) (by show w.heap.size<W1.heap.size; omega)).trans HC2.out
         rw [←HBQ.out.cell (p:=⟨wz,_,none⟩) (by show wz<W1.heap.size; omega)] at cx0 cx1 cx2
         have hN1:w.heap.size<wr.heap.size:=by have:=HBQ.out.size; omega
         have HX:=Hh hx; clear hx
         have HSZ1:=Hh hsz1; clear hsz1
         have hq0:(0:Int)≤(q:Int):=by omega
         have hq5:(q:Int)<5:=by omega
         by_cases e0:k=x0
         · by_cases e1:r=x1
           · by_cases e2:(0:Int)=x2
             · subst e0 e1 e2
               go_wp2_with fail
               go_ret
               refine ⟨?_,?_⟩
               · have hm:(k,r,(0:Int))∈idxOps j:=List.mem_of_getElem? HX.out
                 have hj01:j=0∨j=1:=by omega
                 rcases hj01 with rfl | rfl
                 · have hfin:indexS k r n=5:=by rw [HR.out]; exact if_pos hm
                   rw [hfin]; rfl
                 · have hfin:indexS k r n=6:=by rw [HR.out]; exact (if_neg (HNO.out 0 (by omega))).trans (if_pos hm)
                   rw [hfin]; rfl
               · exact (HB1.out.trans (HBQ.out.mono (by have:=HSZ1.out; omega))).alloc (by omega) _
             · subst e0 e1
               go_wp2_with fail
               go_roundw
               case rel=>exact ⟨q+1,by omega,by go_num,HBQ.out.alloc (by have:=HBQ.out.size; omega) _,by
                intro q' hq'
                by_cases hqq:q'=q
                · subst hqq; rw [HX.out]; intro h; cases h; exact e2 rfl
                · exact HNQ.out q' (by omega)⟩
               case measure=>simp [intOf]; omega
           · subst e0
             go_wp2_with fail
             go_roundw
             case rel=>exact ⟨q+1,by omega,by go_num,HBQ.out.alloc (by have:=HBQ.out.size; omega) _,by
              intro q' hq'
              by_cases hqq:q'=q
              · subst hqq; rw [HX.out]; intro h; cases h; exact e1 rfl
              · exact HNQ.out q' (by omega)⟩
             case measure=>simp [intOf]; omega
         · go_wp2_with fail
           go_roundw
           case rel=>exact ⟨q+1,by omega,by go_num,HBQ.out.alloc (by have:=HBQ.out.size; omega) _,by
            intro q' hq'
            by_cases hqq:q'=q
            · subst hqq; rw [HX.out]; intro h; cases h; exact e0 rfl
            · exact HNQ.out q' (by omega)⟩
           case measure=>simp [intOf]; omega
       · obtain rfl:q=5:=by omega
         have hnm:(k,r,(0:Int))∉idxOps j:=by
          intro hm
          obtain ⟨q,hq⟩:=List.mem_iff_getElem?.1 hm
          have:q<5:=(List.getElem?_eq_some_iff.1 hq).1
          exact HNQ.out q this hq
         have HNM:=Hh hnm; clear hnm
         go_wp2_with fail
         go_roundw
         case rel =>
          refine ⟨j+1,by omega,by go_num,HB1.out.trans (HBQ.out.mono (by have:=HS1.out; omega)),by have:=HBQ.out.size; have:=HS1.out; omega,?_,?_,⟨0,?_⟩,?_,?_,?_,?_⟩
          · exact (HBQ.out.cell (p:=⟨w.heap.size,0,none⟩) (by have:=HS1.out; show w.heap.size<W1.heap.size; omega)).trans HC0.out
          · exact (HBQ.out.cell (p:=⟨w.heap.size,1,none⟩) (by have:=HS1.out; show w.heap.size<W1.heap.size; omega)).trans HC1.out
          · exact (HBQ.out.cell (p:=⟨w.heap.size,2,none⟩) (by have:=HS1.out; show w.heap.size<W1.heap.size; omega)).trans HC2.out
          · exact (HBQ.out.frozen (p:=⟨w.heap.size,2,none⟩) (by have:=HS1.out; show w.heap.size<W1.heap.size; omega)).trans HF2.out
          · exact (HBQ.out.cell (p:=⟨w.heap.size+1+p1.os.size,0,none⟩) (by have:=HS1.out; show w.heap.size+1+p1.os.size<W1.heap.size; omega)).trans HS0'.out
          · exact (HBQ.out.cell (p:=⟨w.heap.size+1+p1.os.size,1,none⟩) (by have:=HS1.out; show w.heap.size+1+p1.os.size<W1.heap.size; omega)).trans HS1'.out
          · intro i hi
            by_cases hij:i=j
            · subst hij; exact HNM.out
            · exact HNO.out i (by omega)
         case measure=>simp [intOf]; omega
    · obtain rfl:j=2:=by omega
      have HNO:=Hh hno; clear hno
      have HBEL:=Hh hbel; clear hbel
      go_wp2_with fail
      go_ret
      refine ⟨?_,HBEL.out⟩
      have hfin:indexS k r n=0:=by rw [HR.out]; exact (if_neg (HNO.out 0 (by omega))).trans (if_neg (HNO.out 1 (by omega)))
      rw [hfin]; rfl
end Go.Proofs.YtkldoojonnkfgaaGreatDoor
