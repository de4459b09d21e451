/- Joined texts: Index, PagesT, OFunc, SetT, DirW. -/
import Derived.Test.YtkldoojonnkfgaaGreatDoorC30
namespace Go.Proofs.YtkldoojonnkfgaaGreatDoor
open Go.RowKit Go.Sort
def idxOps (i:Int):List (Int × Int × Int):=[(2,2 * (5+i - 5),0),(2,2 * (5+i - 5)+1,0),(3,5+i,0),(4,5+i,0),(5,5+i,0)]
def indexS (k r n:Int):Int :=
 if opValid k r n=false then 0 else if (k,r,(0:Int))∈idxOps 0 then 5 else if (k,r,(0:Int))∈idxOps 1 then 6 else 0
theorem idxOps_get (i:Int) (j:Nat) (hj:j<5):∃ x0 x1 x2:Int,(idxOps i)[j]? = some (x0,x1,x2):=by
 have:j=0∨j=1∨j=2∨j=3∨j=4:=by omega
 rcases this with rfl | rfl | rfl | rfl | rfl<;>exact ⟨_,_,_,rfl⟩
theorem idx_cells (i:Int) (j:Nat) (hj:j<5) (x0 x1 x2:Int) (h:(idxOps i)[j]? = some (x0,x1,x2)) (w:World) :
 (w.alloc (.cells #[.int .i64 2,.int .i64 (2 * (5+i - 5)),.int .i64 0,.int .i64 2,.int .i64 (2 * (5+i - 5)+1),.int .i64 0,.int .i64 3,.int .i64 (5+i),.int .i64 0,.int .i64 4,.int .i64 (5+i),.int .i64 0,.int .i64 5,.int .i64 (5+i),.int .i64 0] 172)).cell? ⟨w.heap.size,j * 3,none⟩=some (.int .i64 x0) ∧
 (w.alloc (.cells #[.int .i64 2,.int .i64 (2 * (5+i - 5)),.int .i64 0,.int .i64 2,.int .i64 (2 * (5+i - 5)+1),.int .i64 0,.int .i64 3,.int .i64 (5+i),.int .i64 0,.int .i64 4,.int .i64 (5+i),.int .i64 0,.int .i64 5,.int .i64 (5+i),.int .i64 0] 172)).cell? ⟨w.heap.size,j * 3+1,none⟩=some (.int .i64 x1) ∧
 (w.alloc (.cells #[.int .i64 2,.int .i64 (2 * (5+i - 5)),.int .i64 0,.int .i64 2,.int .i64 (2 * (5+i - 5)+1),.int .i64 0,.int .i64 3,.int .i64 (5+i),.int .i64 0,.int .i64 4,.int .i64 (5+i),.int .i64 0,.int .i64 5,.int .i64 (5+i),.int .i64 0] 172)).cell? ⟨w.heap.size,j * 3+2,none⟩=some (.int .i64 x2):=by
 rw [World.cell?_alloc_at _ _ _ _ rfl,World.cell?_alloc_at _ _ _ _ rfl,World.cell?_alloc_at _ _ _ _ rfl]
 have:j=0∨j=1∨j=2∨j=3∨j=4:=by omega
 rcases this with rfl | rfl | rfl | rfl | rfl<;>(simp [idxOps] at h; obtain ⟨rfl,rfl,rfl⟩:=h; exact ⟨rfl,rfl,rfl⟩)
set_option maxHeartbeats 1000000 in
set_option maxRecDepth 100000 in
theorem index_any (k r n:Int) (w:World) :
 Calls Tryz.prog 194 #[.agg #[.int .i64 k,.int .i64 r,.int .i64 n]] w fun e w'=>e=.returned (.int .i64 (indexS k r n))∧Below w.heap.size w w':=by
 rcases hv:opValid k r n with _ | _
 · have hr:indexS k r n=0:=by unfold indexS; rw [if_pos hv]
   rw [hr]
   have HV:=Hh hv; clear hv hr
   go_enter Tryz.func194,Tryz.ntmps194
   go_wp2_with fail
   refine (valid_any k r n _).mono ?_
   rintro e w1 ⟨rfl,hb⟩
   obtain ⟨p1,rfl⟩:=gw_of_below hb
   clear hb
   rw [HV.out]
   go_wp2_with fail
   go_ret
   exact ⟨rfl,bl⟩
 · have hr:indexS k r n=if (k,r,(0:Int))∈idxOps 0 then 5 else if (k,r,(0:Int))∈idxOps 1 then 6 else 0:=by unfold indexS; rw [if_neg (by rw [hv]; decide)]
   have HV:=Hh hv; clear hv
   have HR:=Hh hr; clear hr
   go_enter Tryz.func194,Tryz.ntmps194
   go_wp2_with fail
   refine (valid_any k r n _).mono ?_
   rintro e w1 ⟨rfl,hb⟩
   obtain ⟨p1,rfl⟩:=gw_of_below hb
   clear hb
   rw [HV.out]
   go_wp2_with fail
   go_loopw [13] (fun i wr=>∃ j:Nat,j≤2∧i=.int .i64 j∧Below w.heap.size w wr∧w.heap.size+1+p1.os.size<wr.heap.size ∧
    wr.cell? ⟨w.heap.size,0,none⟩=some (.int .i64 k)∧wr.cell? ⟨w.heap.size,1,none⟩=some (.int .i64 r)∧(∃ m,wr.cell? ⟨w.heap.size,2,none⟩=some (.int .i64 m))∧wr.frozen? ⟨w.heap.size,2,none⟩=false ∧
    wr.cell? ⟨w.heap.size+1+p1.os.size,0,none⟩=some (.int .i64 5)∧wr.cell? ⟨w.heap.size+1+p1.os.size,1,none⟩=some (.int .i64 6)∧(∀ i:Nat,i<j→(k,r,(0:Int))∉idxOps i))
    (fun i _=>2 - (intOf i).toNat)
   case atStart=>exact ⟨0,by omega,rfl,bl,by simp [go_sem],by simp [go_sem],by simp [go_sem],⟨n,by simp [go_sem]⟩,by simp [go_sem],by simp [go_sem],by simp [go_sem],by intro i hi; omega⟩
   case round =>
    obtain ⟨j,hj,rfl,hbel,hsz,c0,c1,⟨m,c2⟩,f2,s0,s1,hno⟩:=hrel
    by_cases hlt:j<2
    · have hs:wr.cell? ⟨w.heap.size+1+p1.os.size,j,none⟩=some (.int .i64 (5+(j:Int))):=by
       have:j=0∨j=1:=by omega
       rcases this with rfl | rfl
       · exact s0
       · exact s1
      have hN:w.heap.size<wr.heap.size:=by omega
      have HNO:=Hh hno; clear hno
      have HBEL:=Hh hbel; clear hbel
      have S0:=Hh s0; clear s0
      have S1:=Hh s1; clear s1
      go_wp2_with fail
      obtain ⟨wo,rfl⟩:∃ wo:World,wo=wr:=⟨_,rfl⟩
      have hb1:Below w.heap.size w ((wo.setCell ⟨w.heap.size,2,none⟩ (.int .i64 0)).alloc (.cells #[.int .i64 2,.int .i64 (2 * (5+(j:Int) - 5)),.int .i64 0,.int .i64 2,.int .i64 (2 * (5+(j:Int) - 5)+1),.int .i64 0,.int .i64 3,.int .i64 (5+(j:Int)),.int .i64 0,.int .i64 4,.int .i64 (5+(j:Int)),.int .i64 0,.int .i64 5,.int .i64 (5+(j:Int)),.int .i64 0] 172)) :=
       (HBEL.out.setCell (p:=⟨w.heap.size,2,none⟩) (Nat.le_refl _) _).alloc (by simp [World.setCell]; omega) _
      have hs1:((wo.setCell ⟨w.heap.size,2,none⟩ (.int .i64 0)).alloc (.cells #[.int .i64 2,.int .i64 (2 * (5+(j:Int) - 5)),.int .i64 0,.int .i64 2,.int .i64 (2 * (5+(j:Int) - 5)+1),.int .i64 0,.int .i64 3,.int .i64 (5+(j:Int)),.int .i64 0,.int .i64 4,.int .i64 (5+(j:Int)),.int .i64 0,.int .i64 5,.int .i64 (5+(j:Int)),.int .i64 0] 172)).heap.size=wo.heap.size+1:=by simp [go_sem,World.setCell]
      have hc0:∀ o,((wo.setCell ⟨w.heap.size,2,none⟩ (.int .i64 0)).alloc o).cell? ⟨w.heap.size,0,none⟩=some (.int .i64 k):=fun o=>by
       rw [World.cell?_alloc_past _ _ _ (by simp [World.setCell]; omega),World.cell?_setCell_other _ _ _ _ (by simp)]; exact c0
      have hc1:∀ o,((wo.setCell ⟨w.heap.size,2,none⟩ (.int .i64 0)).alloc o).cell? ⟨w.heap.size,1,none⟩=some (.int .i64 r):=fun o=>by
       rw [World.cell?_alloc_past _ _ _ (by simp [World.setCell]; omega),World.cell?_setCell_other _ _ _ _ (by simp)]; exact c1
      have hc2:∀ o,((wo.setCell ⟨w.heap.size,2,none⟩ (.int .i64 0)).alloc o).cell? ⟨w.heap.size,2,none⟩=some (.int .i64 0):=fun o=>by
       rw [World.cell?_alloc_past _ _ _ (by simp [World.setCell]; omega),World.cell?_setCell_same _ _ _ c2]
      have hf2:∀ o,((wo.setCell ⟨w.heap.size,2,none⟩ (.int .i64 0)).alloc o).frozen? ⟨w.heap.size,2,none⟩=false:=fun o=>by
       rw [World.frozen?_alloc_past _ _ _ (by simp [World.setCell]; omega),World.frozen?_setCell]; exact f2
      have hss:∀ o q x,wo.cell? ⟨w.heap.size+1+p1.os.size,q,none⟩=some x→((wo.setCell ⟨w.heap.size,2,none⟩ (.int .i64 0)).alloc o).cell? ⟨w.heap.size+1+p1.os.size,q,none⟩=some x:=fun o q x hx=>by
       rw [World.cell?_alloc_past _ _ _ (by simp [World.setCell]; omega),World.cell?_setCell_other _ _ _ _ (by simp)]; exact hx
      have hli:=fun q hq x0 x1 x2 h=>idx_cells (j:Int) q hq x0 x1 x2 h (wo.setCell ⟨w.heap.size,2,none⟩ (.int .i64 0))
      replace hc0:=hc0 (.cells #[.int .i64 2,.int .i64 (2 * (5+(j:Int) - 5)),.int .i64 0,.int .i64 2,.int .i64 (2 * (5+(j:Int) - 5)+1),.int .i64 0,.int .i64 3,.int .i64 (5+(j:Int)),.int .i64 0,.int .i64 4,.int .i64 (5+(j:Int)),.int .i64 0,.int .i64 5,.int .i64 (5+(j:Int)),.int .i64 0] 172)
      replace hc1:=hc1 (.cells #[.int .i64 2,.int .i64 (2 * (5+(j:Int) - 5)),.int .i64 0,.int .i64 2,.int .i64 (2 * (5+(j:Int) - 5)+1),.int .i64 0,.int .i64 3,.int .i64 (5+(j:Int)),.int .i64 0,.int .i64 4,.int .i64 (5+(j:Int)),.int .i64 0,.int .i64 5,.int .i64 (5+(j:Int)),.int .i64 0] 172)
      replace hc2:=hc2 (.cells #[.int .i64 2,.int .i64 (2 * (5+(j:Int) - 5)),.int .i64 0,.int .i64 2,.int .i64 (2 * (5+(j:Int) - 5)+1),.int .i64 0,.int .i64 3,.int .i64 (5+(j:Int)),.int .i64 0,.int .i64 4,.int .i64 (5+(j:Int)),.int .i64 0,.int .i64 5,.int .i64 (5+(j:Int)),.int .i64 0] 172)
      replace hf2:=hf2 (.cells #[.int .i64 2,.int .i64 (2 * (5+(j:Int) - 5)),.int .i64 0,.int .i64 2,.int .i64 (2 * (5+(j:Int) - 5)+1),.int .i64 0,.int .i64 3,.int .i64 (5+(j:Int)),.int .i64 0,.int .i64 4,.int .i64 (5+(j:Int)),.int .i64 0,.int .i64 5,.int .i64 (5+(j:Int)),.int .i64 0] 172)
      replace hss:=hss (.cells #[.int .i64 2,.int .i64 (2 * (5+(j:Int) - 5)),.int .i64 0,.int .i64 2,.int .i64 (2 * (5+(j:Int) - 5)+1),.int .i64 0,.int .i64 3,.int .i64 (5+(j:Int)),.int .i64 0,.int .i64 4,.int .i64 (5+(j:Int)),.int .i64 0,.int .i64 5,.int .i64 (5+(j:Int)),.int .i64 0] 172)
      have hs0':=hss 0 _ S0.out
      have hs1':=hss 1 _ S1.out
      rw [show (wo.setCell ⟨w.heap.size,2,none⟩ (.int .i64 0)).heap.size=wo.heap.size from by simp [World.setCell]] at hli
      clear hss
      generalize ((wo.setCell ⟨w.heap.size,2,none⟩ (.int .i64 0)).alloc (.cells #[.int .i64 2,.int .i64 (2 * (5+(j:Int) - 5)),.int .i64 0,.int .i64 2,.int .i64 (2 * (5+(j:Int) - 5)+1),.int .i64 0,.int .i64 3,.int .i64 (5+(j:Int)),.int .i64 0,.int .i64 4,.int .i64 (5+(j:Int)),.int .i64 0,.int .i64 5,.int .i64 (5+(j:Int)),.int .i64 0] 172))=W1 at hb1 hs1 hc0 hc1 hc2 hf2 hli hs0' hs1' ⊢
      generalize hwos:wo.heap.size=wz at hs1 hli hsz hN ⊢
      clear hs c0 c1 c2 f2 S0 S1 HBEL hwos
      have HS1:=Hh hs1; clear hs1
      have HLI:=Hh hli; clear hli
      have HB1:=Hh hb1; clear hb1
      have HS0':=Hh hs0'; clear hs0'
      have HS1':=Hh hs1'; clear hs1'
      have HF2:=Hh hf2; clear hf2
      have HC0:=Hh hc0; clear hc0
      have HC1:=Hh hc1; clear hc1
      have HC2:=Hh hc2; clear hc2
      go_loopw [34] (fun i wr=>∃ q:Nat,q≤5∧i=.int .i64 q∧Below W1.heap.size W1 wr∧(∀ q',q'<q→(idxOps j)[q']? ≠ some (k,r,0))) (fun i _=>5 - (intOf i).toNat)
      case atStart=>exact ⟨0,Nat.zero_le _,rfl,Below.refl _ _,by intro q hq; omega⟩
      case round =>
       obtain ⟨q,hq,rfl,hbq,hnq⟩:=hrel
       have HBQ:=Hh hbq; clear hbq
       have HNQ:=Hh hnq; clear hnq
       by_cases hlq:q<5
       · obtain ⟨x0,x1,x2,hx⟩:=idxOps_get (j:Int) q hlq
         obtain ⟨cx0,cx1,cx2⟩:=HLI.out q hlq x0 x1 x2 hx
         have hsz1:=HS1.out
         have d0:wr.cell? ⟨w.heap.size,0,none⟩=some (.int .i64 k):=(HBQ.out.cell (p:=⟨w.heap.size,0,none⟩) (by show w.heap.size<W1.heap.size; omega)).trans HC0.out
         have d1:wr.cell? ⟨w.heap.size,1,none⟩=some (.int .i64 r):=(HBQ.out.cell (p:=⟨w.heap.size,1,none⟩) (by show w.heap.size<W1.heap.size; omega)).trans HC1.out
         have d2:wr.cell? ⟨w.heap.size,2,none⟩=some (.int .i64 0):=(HBQ.out.cell (p:=⟨w.heap.size,2,none⟩) (by show w.heap.size<W1.heap.size; omega)).trans HC2.out
         rw [←HBQ.out.cell (p:=⟨wz,_,none⟩) (by show wz<W1.heap.size; omega)] at cx0 cx1 cx2
         have hN1:w.heap.size<wr.heap.size:=by have:=HBQ.out.size; omega
         have HX:=Hh hx; clear hx
         have HSZ1:=Hh hsz1; clear hsz1
         have hq0:(0:Int)≤(q:Int):=by omega
         have hq5:(q:Int)<5:=by omega
         by_cases e0:k=x0
         · by_cases e1:r=x1
           · by_cases e2:(0:Int)=x2
             · subst e0 e1 e2
               go_wp2_with fail
               go_ret
               refine ⟨?_,?_⟩
               · have hm:(k,r,(0:Int))∈idxOps j:=List.mem_of_getElem? HX.out
                 have hj01:j=0∨j=1:=by omega
                 rcases hj01 with rfl | rfl
                 · have hfin:indexS k r n=5:=by rw [HR.out]; exact if_pos hm
                   rw [hfin]; rfl
                 · have hfin:indexS k r n=6:=by rw [HR.out]; exact (if_neg (HNO.out 0 (by omega))).trans (if_pos hm)
                   rw [hfin]; rfl
               · exact (HB1.out.trans (HBQ.out.mono (by have:=HSZ1.out; omega))).alloc (by omega) _
             · subst e0 e1
               go_wp2_with fail
               go_roundw
               case rel=>exact ⟨q+1,by omega,by go_num,HBQ.out.alloc (by have:=HBQ.out.size; omega) _,by
                intro q' hq'
                by_cases hqq:q'=q
                · subst hqq; rw [HX.out]; intro h; cases h; exact e2 rfl
                · exact HNQ.out q' (by omega)⟩
               case measure=>simp [intOf]; omega
           · subst e0
             go_wp2_with fail
             go_roundw
             case rel=>exact ⟨q+1,by omega,by go_num,HBQ.out.alloc (by have:=HBQ.out.size; omega) _,by
              intro q' hq'
              by_cases hqq:q'=q
              · subst hqq; rw [HX.out]; intro h; cases h; exact e1 rfl
              · exact HNQ.out q' (by omega)⟩
             case measure=>simp [intOf]; omega
         · go_wp2_with fail
           go_roundw
           case rel=>exact ⟨q+1,by omega,by go_num,HBQ.out.alloc (by have:=HBQ.out.size; omega) _,by
            intro q' hq'
            by_cases hqq:q'=q
            · subst hqq; rw [HX.out]; intro h; cases h; exact e0 rfl
            · exact HNQ.out q' (by omega)⟩
           case measure=>simp [intOf]; omega
       · obtain rfl:q=5:=by omega
         have hnm:(k,r,(0:Int))∉idxOps j:=by
          intro hm
          obtain ⟨q,hq⟩:=List.mem_iff_getElem?.1 hm
          have:q<5:=(List.getElem?_eq_some_iff.1 hq).1
          exact HNQ.out q this hq
         have HNM:=Hh hnm; clear hnm
         go_wp2_with fail
         go_roundw
         case rel =>
          refine ⟨j+1,by omega,by go_num,HB1.out.trans (HBQ.out.mono (by have:=HS1.out; omega)),by have:=HBQ.out.size; have:=HS1.out; omega,?_,?_,⟨0,?_⟩,?_,?_,?_,?_⟩
          · exact (HBQ.out.cell (p:=⟨w.heap.size,0,none⟩) (by have:=HS1.out; show w.heap.size<W1.heap.size; omega)).trans HC0.out
          · exact (HBQ.out.cell (p:=⟨w.heap.size,1,none⟩) (by have:=HS1.out; show w.heap.size<W1.heap.size; omega)).trans HC1.out
          · exact (HBQ.out.cell (p:=⟨w.heap.size,2,none⟩) (by have:=HS1.out; show w.heap.size<W1.heap.size; omega)).trans HC2.out
          · exact (HBQ.out.frozen (p:=⟨w.heap.size,2,none⟩) (by have:=HS1.out; show w.heap.size<W1.heap.size; omega)).trans HF2.out
          · exact (HBQ.out.cell (p:=⟨w.heap.size+1+p1.os.size,0,none⟩) (by have:=HS1.out; show w.heap.size+1+p1.os.size<W1.heap.size; omega)).trans HS0'.out
          · exact (HBQ.out.cell (p:=⟨w.heap.size+1+p1.os.size,1,none⟩) (by have:=HS1.out; show w.heap.size+1+p1.os.size<W1.heap.size; omega)).trans HS1'.out
          · intro i hi
            by_cases hij:i=j
            · subst hij; exact HNM.out
            · exact HNO.out i (by omega)
         case measure=>simp [intOf]; omega
    · obtain rfl:j=2:=by omega
      have HNO:=Hh hno; clear hno
      have HBEL:=Hh hbel; clear hbel
      go_wp2_with fail
      go_ret
      refine ⟨?_,HBEL.out⟩
      have hfin:indexS k r n=0:=by rw [HR.out]; exact (if_neg (HNO.out 0 (by omega))).trans (if_neg (HNO.out 1 (by omega)))
      rw [hfin]; rfl
def pagesS:List Op3→List Nat
 | []=>[0,1,2]
 | o::l=>if indexS o.1 o.2.1 0=5 then [3,5] else if indexS o.1 o.2.1 0=6 then [4,6] else pagesS l
def pgc (l:List Nat):List Value:=l.map fun p:Nat=>Value.int .i64 (p:Int)
theorem pagesS_step {l:List Op3} {j:Nat} {o:Op3} (h:l[j]? = some o) (h5:indexS o.1 o.2.1 0≠5) (h6:indexS o.1 o.2.1 0≠6):pagesS (l.drop j)=pagesS (l.drop (j+1)):=by
 obtain ⟨hj,he⟩:=List.getElem?_eq_some_iff.1 h
 rw [List.drop_eq_getElem_cons hj,he]
 show (if _ then _ else _)=_
 rw [if_neg h5,if_neg h6]
theorem pagesS_five {l:List Op3} {j:Nat} {o:Op3} (h:l[j]? = some o) (h5:indexS o.1 o.2.1 0=5):pagesS (l.drop j)=[3,5]:=by
 obtain ⟨hj,he⟩:=List.getElem?_eq_some_iff.1 h
 rw [List.drop_eq_getElem_cons hj,he]
 exact if_pos h5
theorem pagesS_six {l:List Op3} {j:Nat} {o:Op3} (h:l[j]? = some o) (h6:indexS o.1 o.2.1 0=6):pagesS (l.drop j)=[4,6]:=by
 obtain ⟨hj,he⟩:=List.getElem?_eq_some_iff.1 h
 rw [List.drop_eq_getElem_cons hj,he]
 show (if _ then _ else _)=_
 rw [if_neg (by rw [h6]; decide),if_pos h6]
theorem row_lit (w:World) (xs:List Value) (T:TypeId):Row (w.alloc (.cells xs.toArray T)) (.slice (some ⟨w.heap.size,0,none⟩) xs.length xs.length) xs.length xs:=by
 refine ⟨_,_,rfl,Nat.le_refl _,fun _=>⟨w.heap.size,0,rfl,by rw [World.size_alloc]; omega,fun j hj=>?_⟩⟩
 rw [Nat.zero_add,blk_cell (blk_new w _)]
 simp
set_option maxRecDepth 100000 in
set_option maxHeartbeats 2000000 in
theorem pages_any (m:List UInt8) (v:Value) (l:List Op3) (w:World) (hr:Row w v l.length (opc l)) (hl:l.length≤1000) :
 Calls Tryz.prog 116 #[insV m v] w fun e w'=>∃ a c,e=.returned (.slice a (pagesS l).length c)∧Row w' (.slice a (pagesS l).length c) (pagesS l).length (pgc (pagesS l))∧Below w.heap.size w w':=by
 have HR:=Hh hr
 obtain ⟨a,c,rfl,_,_⟩:=hr
 go_enter Tryz.func116,Tryz.ntmps116
 go_wp2_with fail
 go_loopw [8] (fun i wr=>∃ j:Nat,j≤l.length∧i=.int .i64 j∧Below w.heap.size w wr∧Hid (pagesS l=pagesS (l.drop j))) (fun i _=>l.length - (intOf i).toNat)
 case atStart=>exact ⟨0,Nat.zero_le _,rfl,bl,Hh rfl⟩
 case round =>
  obtain ⟨j,hj,rfl,hbel,HP⟩:=hrel
  have HB:=Hh hbel; clear hbel
  by_cases hlt:j<l.length
  · obtain ⟨o,ho⟩:∃ o,l[j]? = some o:=⟨_,List.getElem?_eq_getElem hlt⟩
    have hrw:=(HR.out.below HB.out).op
    obtain ⟨a',c',hv,_,hc⟩:=hrw
    cases hv
    obtain ⟨g,off,rfl,hg,hc⟩:=hc (by rintro rfl; exact absurd hlt (Nat.not_lt_zero _))
    obtain ⟨k0,k1,k2⟩:=hc j o ho
    clear hc
    have hi0:(0:Int)≤(j:Int):=by omega
    have hi1:(j:Int)<(l.length:Int):=by omega
    have hidx:=fun W=>index_any o.1 o.2.1 0 W
    have hs5:=pagesS_five ho
    have hs6:=pagesS_six ho
    have hst:=pagesS_step ho
    generalize indexS o.1 o.2.1 0=x at *
    have HI:=Hh hidx; clear hidx
    have HO:=Hh ho; clear ho
    rcases Decidable.em (x=5) with rfl | h5
    · have hp:=HP.out.trans (hs5 rfl)
      have HP2:=Hh hp; clear hp hs5 hs6 hst
      go_wp2_with fail
      refine (HI.out _).mono ?_
      rintro e w2 ⟨rfl,hb2⟩
      have hle:=HB.out.size
      have HB3:=Hh (HB.out.trans (below_of_alloc hb2 |>.mono hle)); clear hb2
      go_wp2_with fail
      go_ret
      refine ⟨some ⟨w2.heap.size,0,none⟩,2,?_,?_,HB3.out.alloc HB3.out.size _⟩
      · rw [HP2.out]; rfl
      · rw [HP2.out]; exact row_lit w2 (pgc [3,5]) _
    · rcases Decidable.em (x=6) with rfl | h6
      · have hp:=HP.out.trans (hs6 rfl)
        have HP2:=Hh hp; clear hp hs5 hs6 hst
        go_wp2_with fail
        refine (HI.out _).mono ?_
        rintro e w2 ⟨rfl,hb2⟩
        have hle:=HB.out.size
        have HB3:=Hh (HB.out.trans (below_of_alloc hb2 |>.mono hle)); clear hb2
        go_wp2_with fail
        go_ret
        refine ⟨some ⟨w2.heap.size,0,none⟩,2,?_,?_,HB3.out.alloc HB3.out.size _⟩
        · rw [HP2.out]; rfl
        · rw [HP2.out]; exact row_lit w2 (pgc [4,6]) _
      · have hp:=HP.out.trans (hst h5 h6)
        have HP2:=Hh hp; clear hp hs5 hs6 hst
        have e5:(x == 5)=false:=beq_eq_false_iff_ne.2 h5
        have e6:(x == 6)=false:=beq_eq_false_iff_ne.2 h6
        go_wp2_with fail
        refine (HI.out _).mono ?_
        rintro e w2 ⟨rfl,hb2⟩
        have hle:=HB.out.size
        have HB3:=Hh (HB.out.trans (below_of_alloc hb2 |>.mono hle)); clear hb2
        go_wp2_with fail
        go_roundw
        case rel=>exact ⟨j+1,by omega,by go_num,HB3.out,HP2⟩
        case measure=>simp [intOf]; omega
  · obtain rfl:j=l.length:=by omega
    have hp:=HP.out
    rw [List.drop_length] at hp
    have HP2:=Hh hp; clear hp
    go_wp2_with fail
    go_ret
    refine ⟨some ⟨wr.heap.size,0,none⟩,3,?_,?_,HB.out.alloc HB.out.size _⟩
    · rw [HP2.out]; rfl
    · rw [HP2.out]; exact row_lit wr (pgc [0,1,2]) _
set_option maxHeartbeats 1000000 in
theorem indexFuncO (P:Op3→Bool) (fn:Nat) (fb:Array Value) (v1:Value) (L:List Op3) (w:World) (h1:Row w v1 L.length (opc L)) (hl:L.length≤1000000) (hent:∀ args w,(callFunc fn args).run Tryz.prog w=.ok (.enter fn args) w)
 (hok:∀ y W,y∈L→Below w.heap.size w W→Calls Tryz.prog fn (#[.agg #[.int .i64 y.1,.int .i64 y.2.1,.int .i64 y.2.2]]++fb) W fun e w'=>e=.returned (.bool (P y))∧Below W.heap.size W w') :
 Calls Tryz.prog 184 #[v1,.func (.func fn) #[] fb] w fun e w'=>(∃ i:Int,e=.returned (.int .i64 i)∧decide (0≤i)=L.any P)∧Below w.heap.size w w':=by
 have HRW:=Hh h1
 obtain ⟨a1,c1,rfl,hc1,_⟩:=h1
 have HOK:=Hh hok; clear hok
 go_enter Tryz.func184,Tryz.ntmps184
 go_wp2_with fail
 go_loopw [5,8] (fun _ i wr=>∃ j:Nat,j≤L.length∧i=.int .i64 j∧Below w.heap.size w wr∧Hid ((L.take j).any P=false)) (fun _ i _=>L.length - (intOf i).toNat)
 case atStart=>exact ⟨0,Nat.zero_le _,rfl,Below.refl _ _,Hh (by simp)⟩
 case round =>
  obtain ⟨j,hj,rfl,hbel,Hno⟩:=hrel
  have HBEL:=Hh hbel; clear hbel
  by_cases hlt:j<L.length
  · obtain ⟨y,hy⟩:∃ y,L[j]? = some y:=⟨_,List.getElem?_eq_getElem hlt⟩
    obtain ⟨_,_,hv,_,hc⟩:=(HRW.out.below HBEL.out).op
    cases hv
    obtain ⟨g,o,rfl,hg,hc⟩:=hc (by intro e; rw [e] at hlt; exact absurd hlt (Nat.not_lt_zero _))
    obtain ⟨k0,k1,k2⟩:=hc j y hy
    clear hc
    have hi0:(0:Int)≤(j:Int):=by omega
    have hi1:(j:Int)<(L.length:Int):=by omega
    have hsz:w.heap.size≤wr.heap.size:=HBEL.out.size
    have hmem:y∈L:=List.mem_of_getElem? hy
    have hcall:=HOK.out y wr hmem HBEL.out
    obtain ⟨r,hr⟩:∃ r,P y=r:=⟨_,rfl⟩
    rw [hr] at hcall
    have HCALL:=Hh hcall; clear hcall
    have HR:=Hh hr; clear hr
    have HY:=Hh hy; clear hy
    have HM:=Hh hmem; clear hmem
    go_wp2_with fail
    refine HCALL.out.mono ?_
    rintro e w1 ⟨rfl,hb⟩
    have HB:=Hh (HBEL.out.trans (hb.mono hsz)); clear hb
    cases r with
    | true =>
      go_wp2_with fail
      go_ret
      exact ⟨⟨j,rfl,by rw [decide_eq_true hi0]; exact (List.any_eq_true.2 ⟨y,HM.out,HR.out⟩).symm⟩,HB.out⟩
    | false =>
      go_wp2_with fail
      go_roundw
      case rel=>exact ⟨j+1,by omega,by go_num,HB.out,Hh (by rw [List.take_add_one,HY.out]; simp [Hno.out,HR.out])⟩
      case measure=>simp [intOf]; omega
  · obtain rfl:j=L.length:=by omega
    have hno:L.any P=false:=by have:=Hno.out; rwa [List.take_length] at this
    have HNO:=Hh hno; clear hno
    go_wp2_with fail
    go_ret
    exact ⟨⟨-1,rfl,by rw [HNO.out]; rfl⟩,HBEL.out⟩
set_option maxHeartbeats 1000000 in
theorem containsFuncO (P:Op3→Bool) (fn:Nat) (fb:Array Value) (v1:Value) (L:List Op3) (w:World) (h1:Row w v1 L.length (opc L)) (hl:L.length≤1000000) (hent:∀ args w,(callFunc fn args).run Tryz.prog w=.ok (.enter fn args) w)
 (hok:∀ y W,y∈L→Below w.heap.size w W→Calls Tryz.prog fn (#[.agg #[.int .i64 y.1,.int .i64 y.2.1,.int .i64 y.2.2]]++fb) W fun e w'=>e=.returned (.bool (P y))∧Below W.heap.size W w') :
 Calls Tryz.prog 111 #[v1,.func (.func fn) #[] fb] w fun e w'=>e=.returned (.bool (L.any P))∧Below w.heap.size w w':=by
 have hc:=indexFuncO P fn fb v1 L w h1 hl hent hok
 have HC:=Hh hc; clear hc h1 hok
 go_enter Tryz.func111,Tryz.ntmps111
 go_wp2_with fail
 refine HC.out.mono ?_
 rintro e w1 ⟨⟨i,rfl,hi⟩,hb⟩
 have HI:=Hh hi; clear hi
 have HB:=Hh hb; clear hb
 go_wp2_with fail
 go_ret
 exact ⟨by rw [←HI.out]; rfl,HB.out⟩
set_option maxHeartbeats 1000000 in
theorem indexFuncI (r:Bool) (fn:Nat) (fb:Array Value) (g:Nat) (m:List UInt8) (v:Value) (w:World) (h1:Row w (.slice (some ⟨g,0,none⟩) 1 1) 1 [.string ⟨m.toArray⟩,v]) (hent:∀ args w,(callFunc fn args).run Tryz.prog w=.ok (.enter fn args) w)
 (hok:Calls Tryz.prog fn (#[insV m v]++fb) w fun e w'=>e=.returned (.bool r)∧Below w.heap.size w w') :
 Calls Tryz.prog 96 #[.slice (some ⟨g,0,none⟩) 1 1,.func (.func fn) #[] fb] w fun e w'=>(∃ i:Int,e=.returned (.int .i64 i)∧decide (0≤i)=r)∧Below w.heap.size w w':=by
 obtain ⟨_,_,hv,_,hc⟩:=h1
 cases hv
 obtain ⟨g',o',he,hg,hc⟩:=hc (by simp)
 cases he
 have k0:=hc 0 (by simp)
 have k1:=hc 1 (by simp)
 simp only [Nat.add_zero,Nat.zero_add,List.getElem?_cons_zero,List.getElem?_cons_succ] at k0 k1
 have HOK:=Hh hok; clear hok hc
 go_enter Tryz.func96,Tryz.ntmps96
 go_wp2_with fail
 go_loopw [5,8] (fun _ i wr=>(i=.int .i64 0∧wr=w)∨(i=.int .i64 1∧r=false∧Hid (Below w.heap.size w wr))) (fun _ i _=>1 - (intOf i).toNat)
 case atStart=>exact .inl ⟨rfl,rfl⟩
 case round =>
  rcases hrel with ⟨rfl,rfl⟩ | ⟨rfl,rfl,HB⟩
  · go_wp2_with fail
    refine HOK.out.mono ?_
    rintro e w1 ⟨rfl,hb⟩
    have HB:=Hh hb; clear hb
    cases r with
    | true =>
      go_wp2_with fail
      go_ret
      exact ⟨⟨0,rfl,rfl⟩,HB.out⟩
    | false =>
      go_wp2_with fail
      go_roundw
      case rel=>exact .inr ⟨by go_num,by trivial,HB⟩
      case measure=>simp [intOf]
  · go_wp2_with fail
    go_ret
    exact ⟨⟨-1,rfl,rfl⟩,HB.out⟩
set_option maxHeartbeats 1000000 in
theorem containsFuncI (r:Bool) (fn:Nat) (fb:Array Value) (g:Nat) (m:List UInt8) (v:Value) (w:World) (h1:Row w (.slice (some ⟨g,0,none⟩) 1 1) 1 [.string ⟨m.toArray⟩,v]) (hent:∀ args w,(callFunc fn args).run Tryz.prog w=.ok (.enter fn args) w)
 (hok:Calls Tryz.prog fn (#[insV m v]++fb) w fun e w'=>e=.returned (.bool r)∧Below w.heap.size w w') :
 Calls Tryz.prog 42 #[.slice (some ⟨g,0,none⟩) 1 1,.func (.func fn) #[] fb] w fun e w'=>e=.returned (.bool r)∧Below w.heap.size w w':=by
 have hc:=indexFuncI r fn fb g m v w h1 hent hok
 have HC:=Hh hc; clear hc h1 hok
 go_enter Tryz.func42,Tryz.ntmps42
 go_wp2_with fail
 refine HC.out.mono ?_
 rintro e w1 ⟨⟨i,rfl,hi⟩,hb⟩
 have HI:=Hh hi; clear hi
 have HB:=Hh hb; clear hb
 go_wp2_with fail
 go_ret
 exact ⟨by rw [←HI.out]; rfl,HB.out⟩
end Go.Proofs.YtkldoojonnkfgaaGreatDoor
namespace Go.Proofs.YtkldoojonnkfgaaGreatDoor
open Go.RowKit Go.Sort
open Go.ChangeMaps
theorem zeroBool7 (w:World):(zeroValue 4).run Tryz.prog w=.ok (.bool false) w:=by kernel_rfl
theorem makeSet (w:World):(Instr.makeMap 189 none).run Tryz.prog w=.ok (.map (some w.heap.size)) (w.alloc (.map #[] 0)):=by simp [Instr.makeMap]
set_option maxRecDepth 100000 in
set_option maxHeartbeats 2000000 in
theorem set_any (w:World) (hT:TabsA w):Calls Tryz.prog 107 #[] w fun e w'=>∃ b,e=.returned (.map (some b))∧SMap w' b (setM opsL)∧w.heap.size≤b∧Below w.heap.size w w':=by
 have hmk:=makeSet
 have hops:=fun W (hb:Below w.heap.size w W)=>ops_any W (hT.below hb)
 rw [opsT_fields] at hops
 have hlen:=opsL_len
 obtain ⟨L,hL⟩:∃ L,opsL=L:=⟨_,rfl⟩
 rw [hL] at hops hlen ⊢
 clear hL
 have HOPS:=Hh hops; clear hops
 have hlenI:(L.length:Int)=68:=by omega
 go_enter Tryz.func107,Tryz.ntmps107
 go_wp2_with fail
 refine (HOPS.out _ (bl)).mono ?_
 rintro e w1 ⟨rfl,hw1⟩
 have hb1:Below w.heap.size w w1:=by rw [hw1]; exact ((Below.refl _ _).alloc (Nat.le_refl _) _).alloc (by simp) _
 have hm1:SMap w1 w.heap.size (setM (L.take 0)):=by rw [hw1]; exact (SMap.new (by show (w.heap.push _)[_]? = _; simp)).alloc _
 have hr1:w1.heap[w.heap.size+1]? = some (.cells (L.map fun x=>Value.string ⟨x.toArray⟩).toArray 9 (0,0)):=by
  rw [hw1]
  have:=blk_new (w.alloc (.map #[] 0)) (.cells (L.map fun x=>Value.string ⟨x.toArray⟩).toArray 9)
  rwa [World.size_alloc] at this
 have hsz:(w.alloc (.map #[] 0)).heap.size=w.heap.size+1:=by simp
 rw [hsz]
 have HM:=Hh hm1; have HR:=Hh hr1; have HB:=Hh hb1
 clear hm1 hr1 hb1 hw1 hsz
 go_wp2_with fail
 go_loopw [7] (fun i wr=>∃ j:Nat,j≤L.length∧i=.int .i64 j∧Hid (SMap wr w.heap.size (setM (L.take j)))∧Hid (wr.heap[w.heap.size+1]? = some (.cells (L.map fun x=>Value.string ⟨x.toArray⟩).toArray 9 (0,0)))∧Hid (Below w.heap.size w wr)) (fun i _=>L.length - (intOf i).toNat)
 case atStart=>exact ⟨0,Nat.zero_le _,rfl,HM,HR,HB⟩
 case round =>
  obtain ⟨j,hj,rfl,HM2,HR2,HB2⟩:=hrel
  by_cases hlt:j<L.length
  · obtain ⟨x,hx⟩:∃ x,L[j]? = some x:=⟨_,List.getElem?_eq_getElem hlt⟩
    have hcy:wr.cell? ⟨w.heap.size+1,j,none⟩=some (.string ⟨x.toArray⟩):=by
     rw [blk_cell HR2.out]
     simp [hx]
    have htk:L.take (j+1)=L.take j++[x]:=by rw [List.take_add_one,hx]; rfl
    have HTK:=Hh htk; clear htk hx
    have hi0:(0:Int)≤(j:Int):=by omega
    have hi1:(j:Int)<(L.length:Int):=by omega
    have hi2:(j:Int)<68:=by omega
    clear hlenI
    go_wp2_with (at_mapUpdate; refine wpList_sput rfl _ _ _ 189 rfl 9 4 Tryz.underlying189 Tryz.underlying9 w.heap.size (setM (L.take j)) ⟨x.toArray⟩ (.bool true) rfl rfl rfl HM2.out ?_)
    intro w3 hm3 hk3 hz3
    have hm4:SMap w3 w.heap.size (setM (L.take (j+1))):=by rw [HTK.out,setM_snoc]; exact hm3
    have hr4:w3.heap[w.heap.size+1]? = some (.cells (L.map fun x=>Value.string ⟨x.toArray⟩).toArray 9 (0,0)):=(hk3.block _ (blk_lt HR2.out) (by omega)).trans HR2.out
    have hb4:Below w.heap.size w w3:=HB2.out.trans ⟨hk3.os,hk3.tape,hk3.output,hk3.size,fun k hk=>hk3.block k (Nat.lt_of_lt_of_le hk HB2.out.size) (by omega)⟩
    have HM4:=Hh hm4; have HR4:=Hh hr4; have HB4:=Hh hb4
    clear hm3 hk3 hz3 hm4 hr4 hb4
    go_wp2_with fail
    go_roundw
    case rel=>exact ⟨j+1,by omega,by go_num,HM4,HR4,HB4⟩
    case measure=>simp [intOf]; omega
  · obtain rfl:j=L.length:=by omega
    have hm5:=HM2.out
    rw [List.take_length] at hm5
    have HM5:=Hh hm5; clear hm5
    go_wp2_with fail
    go_ret
    exact ⟨_,rfl,HM5.out,Nat.le_refl _,HB2.out⟩
set_option maxHeartbeats 1000000 in
theorem knownI_any (s:ByteArray) (w:World) (hT:TabsA w) (hs:s.size≤maxLen):Calls Tryz.prog 48 #[.string s] w fun e w'=>e=.returned (.bool (decide ((upper s).data.toList∈opsL)))∧Below w.heap.size w w':=by
 have hset:=set_any w hT
 have hup:=fun W=>upper_any s W hs
 have hbool:=setM_bool opsL (upper s)
 obtain ⟨R,hR⟩:∃ R,decide ((upper s).data.toList∈opsL)=R:=⟨_,rfl⟩
 rw [hR] at hbool ⊢
 generalize setM opsL=M at *
 generalize upper s=U at *
 have HSET:=Hh hset; clear hset
 have HUP:=Hh hup; clear hup
 have HBO:=Hh hbool; clear hbool hR
 go_enter Tryz.func48,Tryz.ntmps48
 go_wp2_with fail
 refine HSET.out.mono ?_
 rintro e w1 ⟨b,rfl,hm,_,hb1⟩
 have HM:=Hh hm; have HB1:=Hh hb1; clear hm hb1
 go_wp2_with fail
 refine (HUP.out _).mono ?_
 rintro e w2 ⟨rfl,hb2⟩
 have hlk:=run_sget (P:=Tryz.prog) Tryz.underlying189 Tryz.underlying9 zeroBool7 (HM.out.below hb2) U false
 simp only [Bool.false_eq_true,if_false,HBO.out] at hlk
 have HB2:=Hh (HB1.out.trans (hb2.mono HB1.out.size)); clear hb2
 go_wp2_with fail
 go_ret
 exact ⟨rfl,HB2.out⟩
theorem set_look {W:World} {b:Nat} (h:SMap W b (setM opsL)) (s:ByteArray):(Instr.lookup 189 (.map (some b)) (.string s) false).run Tryz.prog W=.ok (.bool (decide (s.data.toList∈opsL))) W:=by
 have hlk:=run_sget (P:=Tryz.prog) Tryz.underlying189 Tryz.underlying9 zeroBool7 h s false
 rw [setM_bool] at hlk
 exact hlk
set_option maxHeartbeats 4000000 in
theorem checkI_raw (m:List UInt8) (v:Value) (l:List Op3) (w:World) (hT:TabsA w) (hr:Row w v l.length (opc l)) (hl:l.length≤1000000) (D A:Bool) (hD:decide (m∈opsL)=D) (hA:(l.any fun o=>!opValid o.1 o.2.1 o.2.2)=A) :
 Calls Tryz.prog 51 #[insV m v] w fun e w'=>e=.returned (.int .i64 (if D=false then 12 else if 3<l.length then 11 else if A=true then 2 else 0))∧Below w.heap.size w w':=by
 obtain ⟨R,hR⟩:∃ R:Int,(if D=false then 12 else if 3<l.length then 11 else if A=true then 2 else 0)=R:=⟨_,rfl⟩
 rw [hR]
 have HRR:=Hh hR; clear hR
 have hset:=fun W (hb:Below w.heap.size w W)=>set_any W (hT.below hb)
 have hlook:=fun W b (h:SMap W b (setM opsL))=>set_look h ⟨m.toArray⟩
 have hD2:decide ((⟨m.toArray⟩:ByteArray).data.toList∈opsL)=D:=hD
 rw [hD2] at hlook
 generalize setM opsL=M at *
 have hcf:=fun W (hb:Below w.heap.size w W)=>containsFuncO (fun o=>!opValid o.1 o.2.1 o.2.2) 112 #[] v l W (hr.below hb) hl (enters_of Tryz.func112 (by kernel_rfl) rfl) (fun y X _ _=>check1_any y X)
 rw [hA] at hcf
 have HSET:=Hh hset; clear hset
 have HLOOK:=Hh hlook; clear hlook
 have HCF:=Hh hcf; clear hcf
 clear hD hD2 hA
 obtain ⟨a,c,rfl,_,_⟩:=hr
 go_enter Tryz.func51,Tryz.ntmps51
 go_wp2_with fail
 obtain ⟨W,hW⟩:∃ W,(w.alloc (.cells #[.string ⟨m.toArray⟩,.slice a l.length c] 24))=W:=⟨_,rfl⟩
 have hbW:Below w.heap.size w W:=by rw [←hW]; exact (Below.refl _ _).alloc (Nat.le_refl _) _
 have hsz:W.heap.size=w.heap.size+1:=by rw [←hW]; simp
 have h0:W.heap[w.heap.size]? = some (.cells #[.string ⟨m.toArray⟩,.slice a l.length c] 24 (0,0)):=by rw [←hW]; exact blk_new _ _
 rw [hW]
 clear hW
 obtain ⟨t0,t1,_,_⟩:=cells2 h0
 have hl0:w.heap.size<W.heap.size:=by omega
 have HBW:=Hh hbW; have HSZ:=Hh hsz
 have hK:∀ X,Below W.heap.size W X→X.cell? ⟨w.heap.size,0,none⟩=some (.string ⟨m.toArray⟩)∧X.cell? ⟨w.heap.size,1,none⟩=some (.slice a l.length c):=fun X hb =>
  ⟨(hb.cell (p:=⟨w.heap.size,0,none⟩) hl0).trans t0,(hb.cell (p:=⟨w.heap.size,1,none⟩) hl0).trans t1⟩
 have HK:=Hh hK
 clear hbW hsz h0 hK
 have hd:Below W.heap.size W W.drew:=bl
 have hd2:Below w.heap.size w W.drew:=HBW.out.trans (hd.mono HBW.out.size)
 go_region_held3 (fun w'=>w'.cell? ⟨w.heap.size,0,none⟩=some (.string ⟨m.toArray⟩)∧w'.cell? ⟨w.heap.size,1,none⟩=some (.slice a l.length c)) (first | exact ⟨t0,t1⟩ | exact K4) (first | ((with_reducible refine (HSET.out _ hd2).mono ?_); rintro e w4 ⟨b4,rfl,hm4,_,hb4⟩; have hbw4:Below W.heap.size W w4:=hd.trans hb4; have K4:=HK.out w4 hbw4; have hlk4:=HLOOK.out w4 b4 hm4))
 have HB5:=Hh (HBW.out.trans (hbw4.mono HBW.out.size))
 obtain ⟨q0,q1⟩:=K4
 have hcf4:=HCF.out _ HB5.out
 have HCF4:=Hh hcf4
 clear hcf4 hd hd2 hbw4 hb4 hm4 hlk4 t0 t1 hl0
 cases D with
 | false =>
   go_wp2_with fail
   go_ret
   exact ⟨by rw [←HRR.out]; rfl,HB5.out⟩
 | true =>
   by_cases h3:3<l.length
   · have h3i:(3:Int)<(l.length:Int):=by omega
     have H3:=Hh h3
     clear h3
     go_wp2_with fail
     go_ret
     exact ⟨by rw [←HRR.out,if_neg (by decide),if_pos H3.out]; rfl,HB5.out⟩
   · have h3i:¬ (3:Int)<(l.length:Int):=by omega
     have H3:=Hh h3
     clear h3
     go_wp2_with fail
     (with_reducible refine HCF4.out.mono ?_)
     rintro e w6 ⟨rfl,hb6⟩
     have HB6:=Hh (HB5.out.trans (hb6.mono HB5.out.size)); clear hb6
     cases A with
     | true =>
       go_wp2_with fail
       go_ret
       exact ⟨by rw [←HRR.out,if_neg (by decide),if_neg H3.out]; rfl,HB6.out⟩
     | false =>
       go_wp2_with fail
       go_ret
       exact ⟨by rw [←HRR.out,if_neg (by decide),if_neg H3.out]; rfl,HB6.out⟩
theorem checkI_any (m:List UInt8) (v:Value) (l:List Op3) (w:World) (hT:TabsA w) (hr:Row w v l.length (opc l)) (hl:l.length≤1000000) :
 Calls Tryz.prog 51 #[insV m v] w fun e w'=>e=.returned (.int .i64 (checkP (m,l)))∧Below w.heap.size w w':=by
 have h:=checkI_raw m v l w hT hr hl _ _ rfl rfl
 have e:checkP (m,l)=if decide (m∈opsL)=false then 12 else if 3<l.length then 11 else if (l.any fun o=>!opValid o.1 o.2.1 o.2.2)=true then 2 else 0:=by
  unfold checkP
  by_cases h:m∈opsL<;>simp [h]
 rw [e]
 exact h
theorem count1_any (n lo hi:Int) (b1 b2:Nat) (w:World) (h1:w.cell? ⟨b1,0,none⟩=some (.int .i64 lo)) (h2:w.cell? ⟨b2,0,none⟩=some (.int .i64 hi)) :
 Calls Tryz.prog 228 #[.int .i64 n,.pointer (some ⟨b1,0,none⟩),.pointer (some ⟨b2,0,none⟩)] w fun e w'=>e=.returned (.bool (decide (lo≤n) && decide (n≤hi)))∧Below w.heap.size w w':=by
 go_enter Tryz.func228,Tryz.ntmps228
 go_wp2_with fail
 refine (numFits1 lo hi n _ _ ?hc).mono ?_
 case hc=>simp [go_sem]
 rintro e w2 ⟨rfl,rfl⟩
 go_wp2_with fail
 go_ret
 exact ⟨rfl,bl⟩
abbrev dir0:Value:=.agg #[.string ⟨#[]⟩,.bool false,.nilFunc]
theorem zeroDir (w:World):(zeroValue 136).run Tryz.prog w=.ok dir0 w:=by kernel_rfl
theorem dir_look {W:World} {mb:Nat} {l:List (ByteArray × Value)} (hm:SMap W mb l) (hd:DirMap l W) (u:ByteArray) :
 (dirU u.data.toList=[]∧(Instr.lookup 138 (.map (some mb)) (.string u) true).run Tryz.prog W=.ok (.tuple #[dir0,.bool false]) W) ∨
 (dirU u.data.toList≠[]∧∃ p q,W.heap[p]? = some (.cells #[.int .i64 1] 3 (0,0))∧W.heap[q]? = some (.cells #[.int .i64 (dirHi (dirU u.data.toList))] 3 (0,0)) ∧
  (Instr.lookup 138 (.map (some mb)) (.string u) true).run Tryz.prog W=.ok (.tuple #[.agg #[.string ⟨(dirU u.data.toList).toArray⟩,.bool (decide (dirU u.data.toList=wDEFB)),.func (.func 228) #[] #[.pointer (some ⟨p,0,none⟩),.pointer (some ⟨q,0,none⟩)]],.bool true]) W):=by
 have hlk:=run_sget (P:=Tryz.prog) Tryz.underlying138 Tryz.underlying9 zeroDir hm u true
 rw [if_pos rfl] at hlk
 by_cases h:dirU u.data.toList=[]
 · left
   refine ⟨h,?_⟩
   rcases hg:sget l u with _ | v
   · rw [hg] at hlk; exact hlk
   · exact absurd h (hd.1 u v hg).1
 · right
   obtain ⟨v,hg⟩:=hd.2 u h
   obtain ⟨_,fv,hv,p,q,hf,h1,h2⟩:=hd.1 u v hg
   subst hv hf
   rw [hg] at hlk
   exact ⟨h,p,q,h1,h2,hlk⟩
set_option maxHeartbeats 1000000 in
theorem directive_any (s:ByteArray) (w:World) (hs:s.size≤maxLen):Calls Tryz.prog 28 #[.string s] w fun e w'=>e=.returned (.tuple #[.string ⟨(dirP s).toArray⟩,.bool (decide (dirP s≠[]))])∧Below w.heap.size w w':=by
 have hdr:=directives_any w
 have hup:=fun W=>upper_any s W hs
 unfold dirP upL
 generalize upper s=U at *
 obtain ⟨D,hD⟩:∃ D,dirU U.data.toList=D:=⟨_,rfl⟩
 rw [hD]
 have HDD:=Hh hD; clear hD
 have HDR:=Hh hdr; clear hdr
 have HUP:=Hh hup; clear hup
 go_enter Tryz.func28,Tryz.ntmps28
 go_wp2_with fail
 (with_reducible refine HDR.out.mono ?_)
 rintro e w1 ⟨mb,l,rfl,hm,hd,hb1⟩
 have HM:=Hh hm; have HD:=Hh hd; have HB1:=Hh hb1; clear hm hd hb1
 go_wp2_with fail
 (with_reducible refine (HUP.out _).mono ?_)
 rintro e w2 ⟨rfl,hb2⟩
 have hd2:DirMap l w2:=⟨fun k v hg=>⟨(HD.out.1 k v hg).1,(HD.out.1 k v hg).2.below hb2⟩,HD.out.2⟩
 have HB2:=Hh (HB1.out.trans (hb2.mono HB1.out.size))
 rcases dir_look (HM.out.below hb2) hd2 U with ⟨h0,hlk⟩ | ⟨h0,p,q,_,_,hlk⟩
 · rw [HDD.out] at h0
   have H0:=Hh h0
   clear hd2 hb2 h0
   go_wp2_with fail
   go_ret2
   exact ⟨by rw [H0.out]; simp,HB2.out.alloc HB2.out.size _⟩
 · rw [HDD.out] at h0 hlk
   have hdt:decide (D≠[])=true:=decide_eq_true h0
   have HDT:=Hh hdt
   generalize decide (D=wDEFB)=db at hlk
   clear hd2 hb2 hdt h0
   go_wp2_with fail
   go_ret2
   exact ⟨by rw [HDT.out]; rfl,HB2.out.alloc HB2.out.size _⟩
set_option maxHeartbeats 1000000 in
theorem operation_any (s:ByteArray) (w:World) (hT:TabsA w) (hs:s.size≤maxLen):Calls Tryz.prog 75 #[.string s] w fun e w'=>e=.returned (.bool (operP s))∧Below w.heap.size w w':=by
 have hdr:=directive_any s w hs
 have hkn:=fun W (hb:Below w.heap.size w W)=>knownI_any s W (hT.below hb) hs
 have hop:operP s=(decide (dirP s≠[]) || decide ((upper s).data.toList∈opsL)):=rfl
 rw [hop]
 generalize decide (dirP s≠[])=D at *
 generalize decide ((upper s).data.toList∈opsL)=K at *
 generalize (⟨(dirP s).toArray⟩:ByteArray)=dn at *
 have HDR:=Hh hdr; have HKN:=Hh hkn
 clear hdr hkn hop
 go_enter Tryz.func75,Tryz.ntmps75
 go_wp2_with fail
 (with_reducible refine HDR.out.mono ?_)
 rintro e w1 ⟨rfl,hb1⟩
 have HB1:=Hh hb1; clear hb1
 cases D with
 | true =>
   go_wp2_with fail
   go_ret
   exact ⟨rfl,HB1.out⟩
 | false =>
   go_wp2_with fail
   (with_reducible refine (HKN.out _ HB1.out).mono ?_)
   rintro e w2 ⟨rfl,hb2⟩
   have HB2:=Hh (HB1.out.trans (hb2.mono HB1.out.size)); clear hb2
   go_wp2_with fail
   go_ret
   exact ⟨rfl,HB2.out⟩
set_option maxHeartbeats 1000000 in
theorem lineReserved_any (s:ByteArray) (w:World) (hT:TabsA w) (hs:s.size≤1000000):Calls Tryz.prog 30 #[.string s] w fun e w'=>e=.returned (.bool (resvW s))∧Below w.heap.size w w':=by
 have hop:=operation_any s w hT (by unfold maxLen; omega)
 have hrs:=fun W=>reserved_any s W (by unfold maxLen; omega)
 have hup:=fun W=>upper_any s W (by unfold maxLen; omega)
 have hR:resvW s=(operP s || decide (0<(namedL s).length) || ((upper s).toList == [77,79,68])):=by
  unfold resvW resvA upL
  rw [ByteArray.toList_eq]
  congr 1
  rw [Bool.eq_iff_iff,decide_eq_true_eq,beq_iff_eq]
 rw [hR]
 generalize operP s=O at *
 generalize decide (0<(namedL s).length)=N at *
 generalize upper s=U at *
 have HOP:=Hh hop; have HRS:=Hh hrs; have HUP:=Hh hup
 clear hop hrs hup hR
 go_enter Tryz.func30,Tryz.ntmps30
 go_wp2_with fail
 (with_reducible refine HOP.out.mono ?_)
 rintro e w1 ⟨rfl,hb1⟩
 have HB1:=Hh hb1; clear hb1
 cases O with
 | true =>
   go_wp2_with fail
   go_ret
   exact ⟨rfl,HB1.out⟩
 | false =>
   go_wp2_with fail
   (with_reducible refine (HRS.out _).mono ?_)
   rintro e w2 ⟨rfl,hb2⟩
   have HB2:=Hh (HB1.out.trans (hb2.mono HB1.out.size)); clear hb2
   cases N with
   | true =>
     go_wp2_with fail
     go_ret
     exact ⟨rfl,HB2.out⟩
   | false =>
     go_wp2_with fail
     (with_reducible refine (HUP.out _).mono ?_)
     rintro e w3 ⟨rfl,hb3⟩
     have HB3:=Hh (HB2.out.trans (hb3.mono HB2.out.size)); clear hb3
     go_wp2_with fail
     go_ret
     exact ⟨rfl,HB3.out⟩
end Go.Proofs.YtkldoojonnkfgaaGreatDoor
