/- Joined texts: OpIdx, IndexedT, AtT. -/
import Derived.Test.YtkldoojonnkfgaaGreatDoorC26
namespace Go.Proofs.YtkldoojonnkfgaaGreatDoor
open Go.RowKit Go.Sort
def idxI (l:List Op3) (x:Op3):Int:=match l.findIdx? (fun o=>o == x) with | some i=>(i:Int) | none=>-1
theorem idxI_no {l:List Op3} {x:Op3} (h:x∉l):idxI l x=-1:=by
 unfold idxI
 rw [List.findIdx?_eq_none_iff.2 (fun y hy=>by rw [beq_eq_false_iff_ne]; rintro rfl; exact h hy)]
theorem idxI_at {l:List Op3} {x:Op3} {j:Nat} (h:x∉l.take j) (hj:l[j]? = some x):idxI l x=j:=by
 unfold idxI
 have hlt:=(List.getElem?_eq_some_iff.1 hj).1
 rw [List.findIdx?_eq_some_iff_getElem.2 ⟨hlt,by have:=(List.getElem?_eq_some_iff.1 hj).2; rw [this]; simp,fun i hi=>by
  rw [Bool.not_eq_true,beq_eq_false_iff_ne]
  intro e
  apply h
  rw [←e]
  exact List.mem_take_iff_getElem.2 ⟨i,by omega,rfl⟩⟩]
theorem not_mem_take1 {l:List Op3} {j:Nat} {x y:Op3} (h:x∉l.take j) (hj:l[j]? = some y) (hne:x≠y):x∉l.take (j+1):=by
 rw [List.take_add_one,hj]
 simp only [Option.toList,List.mem_append,List.mem_singleton]
 rintro (h1 | h1)
 · exact h h1
 · exact hne h1
set_option maxHeartbeats 1000000 in
set_option maxRecDepth 100000 in
theorem idxOp_any (v1:Value) (l:List Op3) (x0 x1 x2:Int) (w:World) (h1:Row w v1 l.length (opc l)) (hl:l.length≤1000000) :
 Calls Tryz.prog 321 #[v1,.agg #[.int .i64 x0,.int .i64 x1,.int .i64 x2]] w fun e w'=>e=.returned (.int .i64 (idxI l (x0,x1,x2)))∧Below w.heap.size w w':=by
 obtain ⟨a1,c1,rfl,hc1,h1⟩:=h1.op
 have H1:=Hh h1; clear h1
 go_enter Tryz.func321,Tryz.ntmps321
 go_wp2_with fail
 go_loopw [5,8] (fun _ i wr=>∃ j:Nat,j≤l.length∧i=.int .i64 j∧Below (w.heap.size+1) (w.alloc (.cells #[.int .i64 x0,.int .i64 x1,.int .i64 x2] 172)) wr∧(x0,x1,x2)∉l.take j) (fun _ i _=>l.length - (intOf i).toNat)
 case atStart=>exact ⟨0,Nat.zero_le _,rfl,Below.refl _ _,by simp⟩
 case round =>
  obtain ⟨j,hj,rfl,hbel,hno⟩:=hrel
  have Hno:=Hh hno; clear hno
  have HBW:Below w.heap.size w wr:=Below.trans (b:=w.alloc (.cells #[.int .i64 x0,.int .i64 x1,.int .i64 x2] 172)) (bl) (hbel.mono (by omega))
  have HBW':=Hh HBW; clear HBW; have HBW:=HBW'; clear HBW'
  by_cases hlt:j<l.length
  · obtain ⟨⟨y0,y1,y2⟩,hy⟩:∃ y,l[j]? = some y:=⟨_,List.getElem?_eq_getElem hlt⟩
    obtain ⟨g,o,rfl,hg,hc⟩:=H1.out (by intro e; rw [e] at hlt; exact absurd hlt (Nat.not_lt_zero _))
    obtain ⟨cy0,cy1,cy2⟩:=hc j _ hy
    clear hc
    rw [←HBW.out.cell (p:=⟨_,_,none⟩) hg] at cy0 cy1 cy2
    have bx0:wr.cell? ⟨w.heap.size,0,none⟩=some (.int .i64 x0):=by rw [hbel.cell (p:=⟨w.heap.size,0,none⟩) (Nat.lt_succ_self _)]; simp [go_sem]
    have bx1:wr.cell? ⟨w.heap.size,1,none⟩=some (.int .i64 x1):=by rw [hbel.cell (p:=⟨w.heap.size,1,none⟩) (Nat.lt_succ_self _)]; simp [go_sem]
    have bx2:wr.cell? ⟨w.heap.size,2,none⟩=some (.int .i64 x2):=by rw [hbel.cell (p:=⟨w.heap.size,2,none⟩) (Nat.lt_succ_self _)]; simp [go_sem]
    have Hy:=Hh hy; clear hy
    have HBEL:=Hh hbel; clear hbel
    have hi0:(0:Int)≤(j:Int):=by omega
    have hi1:(j:Int)<(l.length:Int):=by omega
    by_cases e0:x0=y0
    · by_cases e1:x1=y1
      · by_cases e2:x2=y2
        · subst e0 e1 e2
          go_wp2_with fail
          go_region
          all_goals
           go_wp2_with fail
           go_ret
           exact ⟨by rw [idxI_at Hno.out Hy.out]; rfl,HBW.out.drew⟩
        · subst e0 e1
          go_wp2_with fail
          go_region
          all_goals
           go_wp2_with fail
           go_roundw
          case rel=>exact ⟨j+1,by omega,by go_num,HBEL.out.drew,not_mem_take1 Hno.out Hy.out (fun e=>e2 (by cases e; rfl))⟩
          case measure=>simp [intOf]; omega
      · subst e0
        go_wp2_with fail
        go_region
        all_goals
         go_wp2_with fail
         go_roundw
        case rel=>exact ⟨j+1,by omega,by go_num,HBEL.out.drew,not_mem_take1 Hno.out Hy.out (fun e=>e1 (by cases e; rfl))⟩
        case measure=>simp [intOf]; omega
    · go_wp2_with fail
      go_region
      all_goals
       go_wp2_with fail
       go_roundw
      case rel=>exact ⟨j+1,by omega,by go_num,HBEL.out.drew,not_mem_take1 Hno.out Hy.out (fun e=>e0 (by cases e; rfl))⟩
      case measure=>simp [intOf]; omega
  · obtain rfl:j=l.length:=by omega
    have hno:=Hno.out
    rw [List.take_length] at hno
    have Hno2:=Hh hno; clear hno
    go_wp2_with fail
    go_ret
    exact ⟨by rw [idxI_no Hno2.out]; rfl,HBW.out⟩
theorem t93_1 {p:Prop} (h:p:=by
 rw [←hW]
 exact Kb.owns HOWN.out ((((Kb.refl w.heap.size w1).setCell 0 _).setCell 2 _).setCell 3 _) (own_ne HOWN.out (k:=w.heap.size) (by omega)).symm):p:=h
set_option maxHeartbeats 2000000 in
set_option maxRecDepth 100000 in
theorem indexed_mem (pg:Int) (op:Nat) (mn ex:ByteArray) (v:Value) (al:Bool) (l:List Op3) (page:Nat) (i:Nat) (w:World) (hp1:3≤page) (hp2:page≤4) (hrow:Row w v l.length (opc l)) (hl:l.length≤3) (hmn:upper mn=mn) (hml:mn.size≤100) (hxl:ex.size≤100)
 (hi:idxI l (4,2,0)=i) (hil:i<l.length) (hjp:(mn.toList == [74,80])=false) :
 Calls Tryz.prog 258 #[.agg #[.int .i64 pg,.int .u8 op,.string mn,v,.string ex,.bool al],.int .i64 page] w fun e w'=>∃ v',e=.returned (.tuple #[.agg #[.int .i64 page,.int .u8 op,.string mn,v',.string (⟨#[100]⟩++ex),.bool al],.bool true])∧WRow w' w.heap.size v' l.length (opc (l.set i (5,(page:Int) - 3+5,0)))∧Below w.heap.size w w':=by
 have hmk:=fun W h=>make_any mn v l W (by unfold maxLen; omega) h (by omega)
 rw [hmn] at hmk
 have hix:=fun v W h=>idxOp_any v l 4 2 0 W h (by omega)
 rw [hi] at hix
 have HMK:=Hh hmk; clear hmk hmn
 have HIX:=Hh hix; clear hix hi
 have HROW:=Hh hrow
 obtain ⟨a0,c0,rfl,hc0,_⟩:=hrow
 go_enter Tryz.func258,Tryz.ntmps258
 go_wp2_with fail
 refine (HMK.out _ (HROW.out.below (bl))).mono ?_
 rintro e w1 ⟨v1,rfl,hown,hb⟩
 obtain ⟨a1,c1,rfl⟩:=owns_slice hown
 have h0:=blk_below (blk_alloc (blk_alloc (blk_new w (.cells #[.int .i64 pg,.int .u8 op,.string mn,.slice a0 l.length c0,.string ex,.bool al] 41)))) hb (by simp; omega)
 have h1:=blk_below (blk_alloc (blk_new (w.alloc (.cells #[.int .i64 pg,.int .u8 op,.string mn,.slice a0 l.length c0,.string ex,.bool al] 41)) (.cells #[.int .i64 0,.int .u8 0,.string ⟨#[]⟩,.slice none 0 0,.string ⟨#[]⟩,.bool false] 41))) hb (by simp)
 have h2:=blk_below (blk_new ((w.alloc (.cells #[.int .i64 pg,.int .u8 op,.string mn,.slice a0 l.length c0,.string ex,.bool al] 41)).alloc (.cells #[.int .i64 0,.int .u8 0,.string ⟨#[]⟩,.slice none 0 0,.string ⟨#[]⟩,.bool false] 41)) (.cells #[.int .i64 4,.int .i64 2,.int .i64 0] 172)) hb (by simp)
 simp only [World.size_alloc] at h1 h2
 have hown1:=owns_mono hown (b':=w.heap.size+1+1+1) (by simp)
 have hbw:Below w.heap.size w w1:=(show Below w.heap.size w _ from bl).trans (hb.mono (by simp; omega))
 have H0:=Hh h0
 have H1:=Hh h1
 have H2:=Hh h2
 have HOWN:=Hh hown1
 have HBW:=Hh hbw
 obtain ⟨⟨k0,k1,k2,k3,k4,k5⟩,f0,f1,f2,f3,f4,f5⟩:=cells6 h0
 obtain ⟨m0,m1,m2,_,_,_⟩:=cells3 h2
 clear hown hown1 hb h0 h1 h2 hbw
 go_wp2_with fail
 obtain ⟨W,hW⟩:∃ W,((w1.setCell ⟨w.heap.size,0,none⟩ (.int .i64 page)).setCell ⟨w.heap.size,2,none⟩ (.string mn)).setCell ⟨w.heap.size,3,none⟩ (.slice a1 l.length c1)=W:=⟨_,rfl⟩
 rw [hW]
 have hownW:W.ownsRow (w.heap.size+1+1+1) 172 3 (.slice a1 l.length c1) l.length (opc l):=by
  exact t93_1
 have g0:W.heap[w.heap.size]? = some (.cells #[.int .i64 page,.int .u8 op,.string mn,.slice a1 l.length c1,.string ex,.bool al] 41 (0,0)):=by rw [←hW]; exact blk_set (blk_set (blk_set H0.out))
 have g1:=blk_other (blk_other (blk_other H1.out (b:=w.heap.size) (i:=0) (v:=.int .i64 page) (by omega)) (b:=w.heap.size) (i:=2) (v:=.string mn) (by omega)) (b:=w.heap.size) (i:=3) (v:=.slice a1 l.length c1) (by omega)
 have g2:=blk_other (blk_other (blk_other H2.out (b:=w.heap.size) (i:=0) (v:=.int .i64 page) (by omega)) (b:=w.heap.size) (i:=2) (v:=.string mn) (by omega)) (b:=w.heap.size) (i:=3) (v:=.slice a1 l.length c1) (by omega)
 rw [hW] at g1 g2
 have hbW:Below w.heap.size w W:=by rw [←hW]; exact ((HBW.out.setCell (p:=⟨w.heap.size,0,none⟩) (Nat.le_refl _) _).setCell (p:=⟨w.heap.size,2,none⟩) (Nat.le_refl _) _).setCell (p:=⟨w.heap.size,3,none⟩) (Nat.le_refl _) _
 have hlW:=blk_lt g2
 clear hW HOWN HBW H0 H1 H2 k0 k1 k2 k3 k4 k5 f0 f1 f2 f3 f4 f5 m0 m1 m2
 refine (HIX.out _ _ (Row.of_owns hownW)).mono ?_
 rintro e w2 ⟨rfl,hb2⟩
 have hown2:=owns_below' hownW hb2
 have h0:=blk_below g0 hb2 (by omega)
 have h1:=blk_below g1 hb2 (by omega)
 have h2:=blk_below g2 hb2 (by omega)
 have hbw:=hbW.trans (hb2.mono hbW.size)
 have hl2:=blk_lt h2
 clear hownW hb2 g0 g1 g2 hbW hlW
 have hi0:(0:Int)≤(i:Int):=by omega
 have hi1:(i:Int)<(l.length:Int):=by omega
 obtain ⟨a1',c1',ha1,_,hcells⟩:=(WRow.of_owns hown2).op
 cases ha1
 obtain ⟨g,o,rfl,hg0,hg1,hcells⟩:=hcells (by intro e; rw [e] at hil; exact absurd hil (Nat.not_lt_zero _))
 obtain ⟨x,hx⟩:∃ x,l[i]? = some x:=⟨_,List.getElem?_eq_getElem hil⟩
 obtain ⟨d0,d1,d2,q0,q1,q2⟩:=hcells i x hx
 obtain ⟨⟨k0,k1,k2,k3,k4,k5⟩,f0,f1,f2,f3,f4,f5⟩:=cells6 h0
 obtain ⟨⟨r0,r1,r2,r3,r4,r5⟩,e0,e1,e2,e3,e4,e5⟩:=cells6 h1
 have HX:=Hh hx; clear hx
 have HOWN2:=Hh hown2; clear hown2
 have HBW:=Hh hbw; clear hbw
 clear hcells h0 h1 h2
 have n1:(g=w.heap.size)=False:=by simp; omega
 have n2:(w.heap.size=g)=False:=by simp; omega
 go_wp2_with fail
 refine bodyPost_ret (v:=.tuple #[.agg #[.int .i64 page,.int .u8 op,.string mn,.slice (some ⟨g,o,none⟩) l.length c1,.string (⟨#[100]⟩++ex),.bool al],.bool true]) (by simp [results,Tryz.results258,go_sem,r0,r1,r2,r3,r4,r5]) rfl ⟨_,rfl,?_,?_⟩
 · have hw:=WRow.setO (x:=(5,(page:Int) - 3+5,0)) (WRow.of_owns HOWN2.out) hil
   exact ((hw.kb ((Kb.refl w.heap.size _).setCell 4 _) (by omega)).kb (((((((Kb.refl (w.heap.size+1) _).setCell 0 _).setCell 1 _).setCell 2 _).setCell 3 _).setCell 4 _).setCell 5 _) (by omega)).mono (by omega)
 · have hb9:=HBW.out
   with_reducible repeat (refine Below.setCell ?_ (by first | exact Nat.le_refl _ | exact Nat.le_succ _ | (show w.heap.size≤g; omega)) _)
   exact hb9
def lkL (f:Op3→Op3) (l:List Op3) (k:Nat):List Op3:=(l.take k).map f++l.drop k
theorem lkL_len (f:Op3→Op3) (l:List Op3) (k:Nat):(lkL f l k).length=l.length:=by
 unfold lkL
 rw [List.length_append,List.length_map,List.length_take,List.length_drop]; omega
theorem lkL_at {f:Op3→Op3} {l:List Op3} {k:Nat} {x:Op3} (h:l[k]? = some x):(lkL f l k)[k]? = some x:=by
 have hk:=(List.getElem?_eq_some_iff.1 h).1
 unfold lkL
 rw [List.getElem?_append_right (by rw [List.length_map,List.length_take]; omega),List.length_map,List.length_take,Nat.min_eq_left (Nat.le_of_lt hk),Nat.sub_self,List.getElem?_drop,Nat.add_zero,h]
theorem lkL_set {f:Op3→Op3} {l:List Op3} {k:Nat} {x y:Op3} (h:l[k]? = some x) (hy:f x=y):(lkL f l k).set k y=lkL f l (k+1):=by
 have hk:=(List.getElem?_eq_some_iff.1 h).1
 unfold lkL
 rw [List.take_add_one,h,List.set_append,if_neg (by rw [List.length_map,List.length_take]; omega),List.length_map,List.length_take,Nat.min_eq_left (Nat.le_of_lt hk),Nat.sub_self,List.drop_eq_getElem_cons hk,(List.getElem?_eq_some_iff.1 h).2]
 simp [hy]
theorem lkL_same {f:Op3→Op3} {l:List Op3} {k:Nat} {x:Op3} (h:l[k]? = some x) (hy:f x=x):lkL f l k=lkL f l (k+1):=by
 have hk:=(List.getElem?_eq_some_iff.1 h).1
 unfold lkL
 rw [List.take_add_one,h,List.drop_eq_getElem_cons hk,(List.getElem?_eq_some_iff.1 h).2]
 simp [hy]
def chgF (reg:Int) (o:Op3):Op3:=(chgP reg o).getD o
def chgB (reg:Int) (o:Op3):Bool:=(chgP reg o).isSome
theorem any_snoc {p:Op3→Bool} {l:List Op3} {k:Nat} {x:Op3} (h:l[k]? = some x):(l.take (k+1)).any p=((l.take k).any p || p x):=by
 rw [List.take_add_one,h,List.any_append]; simp
theorem t93_0 {p:Prop} (h:p:=by
 have hb9:=HBW.out
 refine Below.alloc ?_ (by rw [setCell_size,setCell_size,setCell_size]; omega) _
 with_reducible repeat (refine Below.setCell ?_ (by show w.heap.size≤g; omega) _)
 exact hb9):p:=h
set_option maxHeartbeats 8000000 in
set_option maxRecDepth 100000 in
theorem indexed_loop (pg:Int) (op:Nat) (mn ex:ByteArray) (v:Value) (al:Bool) (l:List Op3) (page:Nat) (i:Int) (w:World) (hp1:3≤page) (hp2:page≤4) (hrow:Row w v l.length (opc l)) (hl:l.length≤3) (hmn:upper mn=mn) (hml:mn.size≤100)
 (hi:idxI l (4,2,0)=i) (hc:i=-1∨(∃ k:Nat,i=k∧k≤3)∧(mn.toList == [74,80])=true) :
 Calls Tryz.prog 258 #[.agg #[.int .i64 pg,.int .u8 op,.string mn,v,.string ex,.bool al],.int .i64 page] w fun e w'=>∃ x,e=.returned (.tuple #[x,.bool (op != 235 && l.any (chgB ((page:Int) - 3+5)))])∧(op=235∧x=entV ent0 (.slice none 0 0)∨op≠235∧∃ v',x=.agg #[.int .i64 page,.int .u8 op,.string mn,v',.string ex,.bool al]∧WRow w' w.heap.size v' l.length (opc (l.map (chgF ((page:Int) - 3+5)))))∧Below w.heap.size w w':=by
 have hmk:=fun W h=>make_any mn v l W (by unfold maxLen; omega) h (by omega)
 rw [hmn] at hmk
 have hix:=fun v W h=>idxOp_any v l 4 2 0 W h (by omega)
 rw [hi] at hix
 have HMK:=Hh hmk; clear hmk hmn
 have HIX:=Hh hix; clear hix hi
 have HROW:=Hh hrow
 obtain ⟨a0,c0,rfl,hc0,_⟩:=hrow
 go_enter Tryz.func258,Tryz.ntmps258
 go_wp2_with fail
 refine (HMK.out _ (HROW.out.below (bl))).mono ?_
 rintro e w1 ⟨v1,rfl,hown,hb⟩
 obtain ⟨a1,c1,rfl⟩:=owns_slice hown
 have h0:=blk_below (blk_alloc (blk_alloc (blk_new w (.cells #[.int .i64 pg,.int .u8 op,.string mn,.slice a0 l.length c0,.string ex,.bool al] 41)))) hb (by simp; omega)
 have h1:=blk_below (blk_alloc (blk_new (w.alloc (.cells #[.int .i64 pg,.int .u8 op,.string mn,.slice a0 l.length c0,.string ex,.bool al] 41)) (.cells #[.int .i64 0,.int .u8 0,.string ⟨#[]⟩,.slice none 0 0,.string ⟨#[]⟩,.bool false] 41))) hb (by simp)
 have h2:=blk_below (blk_new ((w.alloc (.cells #[.int .i64 pg,.int .u8 op,.string mn,.slice a0 l.length c0,.string ex,.bool al] 41)).alloc (.cells #[.int .i64 0,.int .u8 0,.string ⟨#[]⟩,.slice none 0 0,.string ⟨#[]⟩,.bool false] 41)) (.cells #[.int .i64 4,.int .i64 2,.int .i64 0] 172)) hb (by simp)
 simp only [World.size_alloc] at h1 h2
 have hown1:=owns_mono hown (b':=w.heap.size+1+1+1) (by simp)
 have hbw:Below w.heap.size w w1:=(show Below w.heap.size w _ from bl).trans (hb.mono (by simp; omega))
 have H0:=Hh h0
 have H1:=Hh h1
 have H2:=Hh h2
 have HOWN:=Hh hown1
 have HBW:=Hh hbw
 obtain ⟨⟨k0,k1,k2,k3,k4,k5⟩,f0,f1,f2,f3,f4,f5⟩:=cells6 h0
 obtain ⟨m0,m1,m2,_,_,_⟩:=cells3 h2
 clear hown hown1 hb h0 h1 h2 hbw
 go_wp2_with fail
 obtain ⟨W,hW⟩:∃ W,((w1.setCell ⟨w.heap.size,0,none⟩ (.int .i64 page)).setCell ⟨w.heap.size,2,none⟩ (.string mn)).setCell ⟨w.heap.size,3,none⟩ (.slice a1 l.length c1)=W:=⟨_,rfl⟩
 rw [hW]
 have hownW:W.ownsRow (w.heap.size+1+1+1) 172 3 (.slice a1 l.length c1) l.length (opc l):=by
  exact t93_1
 have g0:W.heap[w.heap.size]? = some (.cells #[.int .i64 page,.int .u8 op,.string mn,.slice a1 l.length c1,.string ex,.bool al] 41 (0,0)):=by rw [←hW]; exact blk_set (blk_set (blk_set H0.out))
 have g1:=blk_other (blk_other (blk_other H1.out (b:=w.heap.size) (i:=0) (v:=.int .i64 page) (by omega)) (b:=w.heap.size) (i:=2) (v:=.string mn) (by omega)) (b:=w.heap.size) (i:=3) (v:=.slice a1 l.length c1) (by omega)
 have g2:=blk_other (blk_other (blk_other H2.out (b:=w.heap.size) (i:=0) (v:=.int .i64 page) (by omega)) (b:=w.heap.size) (i:=2) (v:=.string mn) (by omega)) (b:=w.heap.size) (i:=3) (v:=.slice a1 l.length c1) (by omega)
 rw [hW] at g1 g2
 have hbW:Below w.heap.size w W:=by rw [←hW]; exact ((HBW.out.setCell (p:=⟨w.heap.size,0,none⟩) (Nat.le_refl _) _).setCell (p:=⟨w.heap.size,2,none⟩) (Nat.le_refl _) _).setCell (p:=⟨w.heap.size,3,none⟩) (Nat.le_refl _) _
 have hlW:=blk_lt g2
 clear hW HOWN HBW H0 H1 H2 k0 k1 k2 k3 k4 k5 f0 f1 f2 f3 f4 f5 m0 m1 m2
 refine (HIX.out _ _ (Row.of_owns hownW)).mono ?_
 rintro e w2 ⟨rfl,hb2⟩
 have hown2:=owns_below' hownW hb2
 have h0:=blk_below g0 hb2 (by omega)
 have h1:=blk_below g1 hb2 (by omega)
 have h2:=blk_below g2 hb2 (by omega)
 have hbw:=hbW.trans (hb2.mono hbW.size)
 have hl2:=blk_lt h2
 clear hownW hb2 g0 g1 g2 hbW hlW
 have hn1:w.heap.size+1+1<w2.heap.size:=hl2
 obtain ⟨⟨k0,k1,k2,k3,k4,k5⟩,f0,f1,f2,f3,f4,f5⟩:=cells6 h0
 have HR2:=Hh (WRow.of_owns hown2)
 have H0:=Hh h0
 have H1:=Hh h1
 have H2:=Hh h2
 have HBW:=Hh hbw
 clear hown2 h0 h1 h2 hbw
 rcases hc with rfl | ⟨⟨ki,rfl,hki⟩,hjp⟩
 all_goals
  go_wp2_with fail
  go_loopw [9,55] (fun ch i wr=>∃ k:Nat,k≤l.length∧i=.int .i64 k∧ch=.bool ((l.take k).any (chgB ((page:Int) - 3+5)))∧Hid (WRow wr (w.heap.size+1+1+1) (.slice a1 l.length c1) l.length (opc (lkL (chgF ((page:Int) - 3+5)) l k))) ∧
   Hid (wr.heap[w.heap.size]? = some (.cells #[.int .i64 page,.int .u8 op,.string mn,.slice a1 l.length c1,.string ex,.bool al] 41 (0,0))) ∧
   Hid (wr.heap[w.heap.size+1]? = some (.cells #[.int .i64 0,.int .u8 0,.string ⟨#[]⟩,.slice none 0 0,.string ⟨#[]⟩,.bool false] 41 (0,0))) ∧
   Hid (wr.heap[w.heap.size+1+1]? = some (.cells #[.int .i64 4,.int .i64 2,.int .i64 0] 172 (0,0)))∧Hid (Below w.heap.size w wr)) (fun _ i _=>l.length - (intOf i).toNat)
  case atStart=>exact ⟨0,Nat.zero_le _,rfl,rfl,Hh HR2.out,Hh H0.out,Hh H1.out,Hh H2.out,Hh HBW.out⟩
  case round =>
   clear k0 k1 k2 k3 k4 k5 f0 f1 f2 f3 f4 f5 HR2 H0 H1 H2 HBW
   obtain ⟨k,hk,rfl,rfl,HROW,HB0,HB1,HB2,HBW⟩:=hrel
   have hn2:w.heap.size+1+1<wr.heap.size:=blk_lt HB2.out
   have hn3:w.heap.size<wr.heap.size:=by omega
   have hn4:w.heap.size+1<wr.heap.size:=by omega
   by_cases hlt:k<l.length
   · obtain ⟨⟨x0,x1,x2⟩,hx⟩:∃ x,l[k]? = some x:=⟨_,List.getElem?_eq_getElem hlt⟩
     have hlk:=lkL_at (f:=chgF ((page:Int) - 3+5)) hx
     have hlen:=lkL_len (chgF ((page:Int) - 3+5)) l k
     have hrw:=HROW.out
     rw [←hlen] at hrw
     obtain ⟨a1',c1',ha1,_,hcells⟩:=hrw.op
     rw [hlen] at ha1
     cases ha1
     obtain ⟨g,o,rfl,hg0,hg1,hcells⟩:=hcells (by intro e; rw [e] at hlen; simp at hlen; omega)
     obtain ⟨d0,d1,d2,q0,q1,q2⟩:=hcells k _ hlk
     dsimp only at d0 d1 d2
     clear hcells hrw hlk hlen
     obtain ⟨⟨k0,k1,k2,k3,k4,k5⟩,f0,f1,f2,f3,f4,f5⟩:=cells6 HB0.out
     obtain ⟨m0,m1,m2,_,_,_⟩:=cells3 HB2.out
     have HX:=Hh hx; clear hx
     have hi0:(0:Int)≤(k:Int):=by omega
     have hi1:(k:Int)<(l.length:Int):=by omega
     by_cases e0:x0=4
     · subst e0
       by_cases e1:x1=2
       · subst e1
         by_cases e2:x2=0
         · subst e2
           have hy:chgP ((page:Int) - 3+5) (4,2,0)=some (4,(page:Int) - 3+5,0):=by simp [chgP]
           have H1:=Hh (lkL_set (f:=chgF ((page:Int) - 3+5)) HX.out (y:=(4,(page:Int) - 3+5,0)) (by unfold chgF; rw [hy]; rfl))
           have H2:=Hh (any_snoc (p:=chgB ((page:Int) - 3+5)) HX.out)
           have H3:Hid (chgB ((page:Int) - 3+5) (4,2,0)=true):=Hh (by unfold chgB; rw [hy]; rfl)
           clear hy
           go_wp2_with fail
           go_roundw
           case rel =>
            refine ⟨k+1,by omega,by go_num,by rw [H2.out,H3.out,Bool.or_true],Hh ?_,Hh ?_,Hh ?_,Hh ?_,Hh ?_⟩
            · have hr:=HROW.out
              rw [←lkL_len (chgF ((page:Int) - 3+5)) l k] at hr
              have hw:=WRow.setO (x:=(4,(page:Int) - 3+5,0)) hr (by rw [lkL_len]; exact hlt)
              rw [H1.out,lkL_len] at hw
              exact hw.below (bl)
            · exact blk_alloc (blk_other (blk_other (blk_other HB0.out (by omega)) (by omega)) (by omega))
            · exact blk_alloc (blk_other (blk_other (blk_other HB1.out (by omega)) (by omega)) (by omega))
            · exact blk_alloc (blk_other (blk_other (blk_other HB2.out (by omega)) (by omega)) (by omega))
            · exact t93_0
           case measure=>simp [intOf]; omega
         · have hy:chgP ((page:Int) - 3+5) (4,2,x2)=none:=by simp [chgP,e2]
           have H1:=Hh (lkL_same (f:=chgF ((page:Int) - 3+5)) HX.out (by unfold chgF; rw [hy]; rfl))
           have H2:=Hh (any_snoc (p:=chgB ((page:Int) - 3+5)) HX.out)
           have H3:Hid (chgB ((page:Int) - 3+5) (4,2,x2)=false):=Hh (by unfold chgB; rw [hy]; rfl)
           clear hy
           go_wp2_with fail
           go_roundw
           case rel=>exact ⟨k+1,by omega,by go_num,by rw [H2.out,H3.out,Bool.or_false],Hh (by rw [←H1.out]; exact HROW.out.below (bl)),Hh (blk_alloc HB0.out),Hh (blk_alloc HB1.out),Hh (blk_alloc HB2.out),Hh (HBW.out.alloc (by omega) _)⟩
           case measure=>simp [intOf]; omega
       · have hy:chgP ((page:Int) - 3+5) (4,x1,x2)=none:=by simp [chgP,e1]
         have H1:=Hh (lkL_same (f:=chgF ((page:Int) - 3+5)) HX.out (by unfold chgF; rw [hy]; rfl))
         have H2:=Hh (any_snoc (p:=chgB ((page:Int) - 3+5)) HX.out)
         have H3:Hid (chgB ((page:Int) - 3+5) (4,x1,x2)=false):=Hh (by unfold chgB; rw [hy]; rfl)
         clear hy
         go_wp2_with fail
         go_roundw
         case rel=>exact ⟨k+1,by omega,by go_num,by rw [H2.out,H3.out,Bool.or_false],Hh (by rw [←H1.out]; exact HROW.out.below (bl)),Hh (blk_alloc HB0.out),Hh (blk_alloc HB1.out),Hh (blk_alloc HB2.out),Hh (HBW.out.alloc (by omega) _)⟩
         case measure=>simp [intOf]; omega
     · by_cases e3:x0=3
       · subst e3
         by_cases e1:x1=2
         · subst e1
           by_cases e2:x2=0
           · subst e2
             have hy:chgP ((page:Int) - 3+5) (3,2,0)=some (3,(page:Int) - 3+5,0):=by simp [chgP]
             have H1:=Hh (lkL_set (f:=chgF ((page:Int) - 3+5)) HX.out (y:=(3,(page:Int) - 3+5,0)) (by unfold chgF; rw [hy]; rfl))
             have H2:=Hh (any_snoc (p:=chgB ((page:Int) - 3+5)) HX.out)
             have H3:Hid (chgB ((page:Int) - 3+5) (3,2,0)=true):=Hh (by unfold chgB; rw [hy]; rfl)
             clear hy
             go_wp2_with fail
             go_roundw
             case rel =>
              refine ⟨k+1,by omega,by go_num,by rw [H2.out,H3.out,Bool.or_true],Hh ?_,Hh ?_,Hh ?_,Hh ?_,Hh ?_⟩
              · have hr:=HROW.out
                rw [←lkL_len (chgF ((page:Int) - 3+5)) l k] at hr
                have hw:=WRow.setO (x:=(3,(page:Int) - 3+5,0)) hr (by rw [lkL_len]; exact hlt)
                rw [H1.out,lkL_len] at hw
                exact hw.below (bl)
              · exact blk_alloc (blk_other (blk_other (blk_other HB0.out (by omega)) (by omega)) (by omega))
              · exact blk_alloc (blk_other (blk_other (blk_other HB1.out (by omega)) (by omega)) (by omega))
              · exact blk_alloc (blk_other (blk_other (blk_other HB2.out (by omega)) (by omega)) (by omega))
              · exact t93_0
             case measure=>simp [intOf]; omega
           · have hy:chgP ((page:Int) - 3+5) (3,2,x2)=none:=by simp [chgP,e2]
             have H1:=Hh (lkL_same (f:=chgF ((page:Int) - 3+5)) HX.out (by unfold chgF; rw [hy]; rfl))
             have H2:=Hh (any_snoc (p:=chgB ((page:Int) - 3+5)) HX.out)
             have H3:Hid (chgB ((page:Int) - 3+5) (3,2,x2)=false):=Hh (by unfold chgB; rw [hy]; rfl)
             clear hy
             go_wp2_with fail
             go_roundw
             case rel=>exact ⟨k+1,by omega,by go_num,by rw [H2.out,H3.out,Bool.or_false],Hh (by rw [←H1.out]; exact HROW.out.below (bl)),Hh (blk_alloc HB0.out),Hh (blk_alloc HB1.out),Hh (blk_alloc HB2.out),Hh (HBW.out.alloc (by omega) _)⟩
             case measure=>simp [intOf]; omega
         · have hy:chgP ((page:Int) - 3+5) (3,x1,x2)=none:=by simp [chgP,e1]
           have H1:=Hh (lkL_same (f:=chgF ((page:Int) - 3+5)) HX.out (by unfold chgF; rw [hy]; rfl))
           have H2:=Hh (any_snoc (p:=chgB ((page:Int) - 3+5)) HX.out)
           have H3:Hid (chgB ((page:Int) - 3+5) (3,x1,x2)=false):=Hh (by unfold chgB; rw [hy]; rfl)
           clear hy
           go_wp2_with fail
           go_roundw
           case rel=>exact ⟨k+1,by omega,by go_num,by rw [H2.out,H3.out,Bool.or_false],Hh (by rw [←H1.out]; exact HROW.out.below (bl)),Hh (blk_alloc HB0.out),Hh (blk_alloc HB1.out),Hh (blk_alloc HB2.out),Hh (HBW.out.alloc (by omega) _)⟩
           case measure=>simp [intOf]; omega
       · by_cases e4:x0=1
         · subst e4
           by_cases e5:x1=4
           · subst e5
             have hy:chgP ((page:Int) - 3+5) (1,4,x2)=some (2,2 * ((page:Int) - 3),0):=by simp [chgP]
             have H1:=Hh (lkL_set (f:=chgF ((page:Int) - 3+5)) HX.out (y:=(2,2 * ((page:Int) - 3),0)) (by unfold chgF; rw [hy]; rfl))
             have H2:=Hh (any_snoc (p:=chgB ((page:Int) - 3+5)) HX.out)
             have H3:Hid (chgB ((page:Int) - 3+5) (1,4,x2)=true):=Hh (by unfold chgB; rw [hy]; rfl)
             clear hy
             go_wp2_with fail
             go_roundw
             case rel =>
              refine ⟨k+1,by omega,by go_num,by rw [H2.out,H3.out,Bool.or_true],Hh ?_,Hh ?_,Hh ?_,Hh ?_,Hh ?_⟩
              · have hr:=HROW.out
                rw [←lkL_len (chgF ((page:Int) - 3+5)) l k] at hr
                have hw:=WRow.setO (x:=(2,2 * ((page:Int) - 3),0)) hr (by rw [lkL_len]; exact hlt)
                rw [H1.out,lkL_len] at hw
                exact hw.below (bl)
              · exact blk_alloc (blk_other (blk_other (blk_other HB0.out (by omega)) (by omega)) (by omega))
              · exact blk_alloc (blk_other (blk_other (blk_other HB1.out (by omega)) (by omega)) (by omega))
              · exact blk_alloc (blk_other (blk_other (blk_other HB2.out (by omega)) (by omega)) (by omega))
              · exact t93_0
             case measure=>simp [intOf]; omega
           · by_cases e6:x1=5
             · subst e6
               have hy:chgP ((page:Int) - 3+5) (1,5,x2)=some (2,2 * ((page:Int) - 3)+5 - 4,0):=by simp [chgP]
               have H1:=Hh (lkL_set (f:=chgF ((page:Int) - 3+5)) HX.out (y:=(2,2 * ((page:Int) - 3)+5 - 4,0)) (by unfold chgF; rw [hy]; rfl))
               have H2:=Hh (any_snoc (p:=chgB ((page:Int) - 3+5)) HX.out)
               have H3:Hid (chgB ((page:Int) - 3+5) (1,5,x2)=true):=Hh (by unfold chgB; rw [hy]; rfl)
               clear hy
               go_wp2_with fail
               go_roundw
               case rel =>
                refine ⟨k+1,by omega,by go_num,by rw [H2.out,H3.out,Bool.or_true],Hh ?_,Hh ?_,Hh ?_,Hh ?_,Hh ?_⟩
                · have hr:=HROW.out
                  rw [←lkL_len (chgF ((page:Int) - 3+5)) l k] at hr
                  have hw:=WRow.setO (x:=(2,2 * ((page:Int) - 3)+5 - 4,0)) hr (by rw [lkL_len]; exact hlt)
                  rw [H1.out,lkL_len] at hw
                  exact hw.below (bl)
                · exact blk_alloc (blk_other (blk_other (blk_other HB0.out (by omega)) (by omega)) (by omega))
                · exact blk_alloc (blk_other (blk_other (blk_other HB1.out (by omega)) (by omega)) (by omega))
                · exact blk_alloc (blk_other (blk_other (blk_other HB2.out (by omega)) (by omega)) (by omega))
                · exact t93_0
               case measure=>simp [intOf]; omega
             · have b5:(x1 == 4)=false:=by simpa using e5
               have b6:(x1 == 5)=false:=by simpa using e6
               have hy:chgP ((page:Int) - 3+5) (1,x1,x2)=none:=by simp [chgP,e5,e6]
               have H1:=Hh (lkL_same (f:=chgF ((page:Int) - 3+5)) HX.out (by unfold chgF; rw [hy]; rfl))
               have H2:=Hh (any_snoc (p:=chgB ((page:Int) - 3+5)) HX.out)
               have H3:Hid (chgB ((page:Int) - 3+5) (1,x1,x2)=false):=Hh (by unfold chgB; rw [hy]; rfl)
               clear hy
               go_wp2_with fail
               go_roundw
               case rel=>exact ⟨k+1,by omega,by go_num,by rw [H2.out,H3.out,Bool.or_false],Hh (by rw [←H1.out]; exact HROW.out.below (bl)),Hh (blk_alloc HB0.out),Hh (blk_alloc HB1.out),Hh (blk_alloc HB2.out),Hh (HBW.out.alloc (by omega) _)⟩
               case measure=>simp [intOf]; omega
         · have b4:(x0 == 1)=false:=by simpa using e4
           have hy:chgP ((page:Int) - 3+5) (x0,x1,x2)=none:=by simp [chgP,e0,e3,e4]
           have H1:=Hh (lkL_same (f:=chgF ((page:Int) - 3+5)) HX.out (by unfold chgF; rw [hy]; rfl))
           have H2:=Hh (any_snoc (p:=chgB ((page:Int) - 3+5)) HX.out)
           have H3:Hid (chgB ((page:Int) - 3+5) (x0,x1,x2)=false):=Hh (by unfold chgB; rw [hy]; rfl)
           clear hy
           go_wp2_with fail
           go_roundw
           case rel=>exact ⟨k+1,by omega,by go_num,by rw [H2.out,H3.out,Bool.or_false],Hh (by rw [←H1.out]; exact HROW.out.below (bl)),Hh (blk_alloc HB0.out),Hh (blk_alloc HB1.out),Hh (blk_alloc HB2.out),Hh (HBW.out.alloc (by omega) _)⟩
           case measure=>simp [intOf]; omega
   · obtain rfl:k=l.length:=by omega
     obtain ⟨⟨k0,k1,k2,k3,k4,k5⟩,f0,f1,f2,f3,f4,f5⟩:=cells6 HB0.out
     obtain ⟨⟨r0,r1,r2,r3,r4,r5⟩,e0,e1,e2,e3,e4,e5⟩:=cells6 HB1.out
     have HANY:Hid ((l.take l.length).any (chgB ((page:Int) - 3+5))=l.any (chgB ((page:Int) - 3+5))):=Hh (by rw [List.take_length])
     have HR:Hid (WRow wr (w.heap.size+1+1+1) (.slice a1 l.length c1) l.length (opc (l.map (chgF ((page:Int) - 3+5))))):=Hh (by have:=HROW.out; rwa [show lkL (chgF ((page:Int) - 3+5)) l l.length=l.map (chgF ((page:Int) - 3+5)) by unfold lkL; rw [List.take_length,List.drop_length,List.append_nil]] at this)
     generalize (l.take l.length).any (chgB ((page:Int) - 3+5))=ch at *
     by_cases h235:op=235
     · have hb:((op:Int) == 235)=true:=by rw [h235]; rfl
       have H235:=Hh h235; clear h235
       go_wp2_with fail
       refine bodyPost_ret (v:=.tuple #[entV ent0 (.slice none 0 0),.bool false]) (by simp [results,Tryz.results258,go_sem,r0,r1,r2,r3,r4,r5,ent0]) rfl ⟨_,by rw [H235.out]; rfl,.inl ⟨H235.out,rfl⟩,?_⟩
       have hb9:=HBW.out
       with_reducible repeat (refine Below.setCell ?_ (by first | exact Nat.le_refl _ | exact Nat.le_succ _) _)
       exact hb9
     · have hb:((op:Int) == 235)=false:=by rw [beq_eq_false_iff_ne]; omega
       have H235:=Hh h235; clear h235
       go_wp2_with fail
       refine bodyPost_ret (v:=.tuple #[.agg #[.int .i64 page,.int .u8 op,.string mn,.slice a1 l.length c1,.string ex,.bool al],.bool ch]) (by simp [results,Tryz.results258,go_sem,r0,r1,r2,r3,r4,r5]) rfl ⟨_,by rw [←HANY.out,bne_iff_ne.2 H235.out]; rfl,.inr ⟨H235.out,_,rfl,?_⟩,?_⟩
       · exact (HR.out.kb (((((((Kb.refl (w.heap.size+1) _).setCell 0 _).setCell 1 _).setCell 2 _).setCell 3 _).setCell 4 _).setCell 5 _) (by omega)).mono (by omega)
       · have hb9:=HBW.out
         with_reducible repeat (refine Below.setCell ?_ (by first | exact Nat.le_refl _ | exact Nat.le_succ _) _)
         exact hb9
theorem cb_some:∀ op:Fin 256,(lookR cbR (op.val / 8 * 8+6)).isSome=true:=by decide +kernel
theorem cb_args:∀ r∈cbR,1≤r.args.length:=by decide +kernel
theorem rule_len {r:Rule} (h:r∈allR):r.args.length≤3:=rule3 ⟨r,h⟩
theorem lookR_mem {l:List Rule} {op:Nat} {r:Rule} (h:lookR l op=some r):r∈l:=List.mem_of_find?_eq_some h
theorem both_any (page op:Nat) (w:World) (hp1:5≤page) (hp2:page≤6) (hop:op<256) (hT:TabsA w) :
 Calls Tryz.prog 259 #[.int .i64 page,.int .u8 op] w fun e w'=>∃ x v,bothP page op=some x∧e=.returned (entV x v)∧w'.ownsRow w.heap.size 172 3 v x.args.length (opc x.args)∧Below w.heap.size w w':=by
 obtain ⟨hq,hs⟩:=op_and ⟨op,hop⟩
 dsimp only at hq hs
 have hs8:op % 8<8:=Nat.mod_lt _ (by decide)
 have hqlt:op / 8 * 8+6<256:=by omega
 obtain ⟨r,hr⟩:=Option.isSome_iff_exists.1 (cb_some ⟨op,hop⟩)
 dsimp only at hr
 have hrm:=lookR_mem hr
 have hfp:findP page cbR (op / 8 * 8+6)=some (entOf page (op / 8 * 8+6) r):=by unfold findP; rw [hr]; rfl
 have hlen:(entOf page (op / 8 * 8+6) r).args.length=r.args.length:=entOf_len _ _ _
 have h1:1≤(entOf page (op / 8 * 8+6) r).args.length:=by rw [hlen]; exact cb_args r hrm
 have h3:(entOf page (op / 8 * 8+6) r).args.length≤3:=by rw [hlen]; exact rule_len (cb_all r hrm)
 have HF:Hid (∀ W,TabsA W→Calls Tryz.prog 257 #[.int .i64 page,.string cbS,.int .u8 ((op / 8 * 8+6:Nat):Int)] W fun e w'=>∃ v ex,e=.returned (.tuple #[.agg #[.int .i64 page,.int .u8 ((op / 8 * 8+6:Nat):Int),.string ⟨(entOf page (op / 8 * 8+6) r).mn.toArray⟩,v,.string ex,.bool (entOf page (op / 8 * 8+6) r).alias],.bool true])∧w'.ownsRow W.heap.size 172 3 v (entOf page (op / 8 * 8+6) r).args.length (opc (entOf page (op / 8 * 8+6) r).args)∧Below W.heap.size W w'):=Hh (fun W hT=>by
  have h:=findT_any page cbR cb_all cbS cbS_eq (by decide) (by decide) (op / 8 * 8+6) hqlt W hT
  rw [hfp] at h
  exact h.mono fun e w' ⟨v,he,ho,hb⟩=>⟨v,_,he,ho,hb⟩)
 unfold bothP
 rw [hfp]
 simp only [Option.map_some]
 by_cases hs6:op % 8=6
 · rw [if_pos hs6]
   refine (both_six page op _ _ _ _ _ w hp1 hp2 hq hs hs8 HF (Hh hT) h1 h3 (by rw [hs6]; rfl)).mono ?_
   rintro e w' ⟨v,he,ho,hb⟩
   exact ⟨_,v,rfl,he,by simp only [List.length_set,Int.sub_add_cancel]; exact ho,hb⟩
 · rw [if_neg hs6]
   have hb6:(((op % 8:Nat):Int) == 6)=false:=by rw [beq_eq_false_iff_ne]; omega
   by_cases hbit:(entOf page (op / 8 * 8+6) r).mn=[66,73,84]
   · rw [if_pos hbit]
     refine (both_bit page op _ _ _ _ _ w hp1 hp2 hq hs hs8 HF (Hh hT) h1 h3 hb6 (by simpa using hbit)).mono ?_
     rintro e w' ⟨v,he,ho,hb⟩
     exact ⟨_,v,rfl,he,by simp only [List.length_set,Int.sub_add_cancel]; exact ho,hb⟩
   · rw [if_neg hbit]
     refine (both_reg page op _ _ _ _ _ w hp1 hp2 hq hs hs8 HF (Hh hT) h1 h3 hb6 (by simpa using hbit)).mono ?_
     rintro e w' ⟨v,he,ho,hb⟩
     exact ⟨_,v,rfl,he,by simp only [List.length_append,List.length_set,List.length_cons,List.length_nil,Int.sub_add_cancel]; exact ho,hb⟩
def AtRes (x:Option Ent × Nat) (w:World) (e:Ending) (w':World):Prop:=∃ v,e=.returned (.tuple #[entV (x.1.getD ent0) v,.int .i64 x.2])∧WRow w' w.heap.size v (x.1.getD ent0).args.length (opc (x.1.getD ent0).args)∧Below w.heap.size w w'
theorem t94_3 {p:Prop} (h:p:=by
 exact (((WRow.of_owns HOWN.out).kb (((((((Kb.refl (w.heap.size+1) _).setCell 0 _).setCell 1 _).setCell 2 _).setCell 3 _).setCell 4 _).setCell 5 _) (by omega)).kb (((((((Kb.refl w.heap.size _).setCell 0 _).setCell 1 _).setCell 2 _).setCell 3 _).setCell 4 _).setCell 5 _) (by omega)).mono (by omega)):p:=h
theorem t94_4 {p:Prop} (h:p:=by
 have hb9:=HBW.out
 with_reducible repeat (refine Below.setCell ?_ (by first | exact Nat.le_refl _ | exact Nat.le_succ _) _)
 exact hb9):p:=h
set_option maxHeartbeats 4000000 in
set_option maxRecDepth 100000 in
theorem at_0 (op:Nat) (w:World) (hop:op<256) (hT:TabsA w):Calls Tryz.prog 193 #[.int .i64 0,.int .u8 op] w (AtRes (atP 0 op) w):=by
 have hf:=fun W hT=>findT_any 0 mainR main_all mainS mainS_eq (by decide) (by decide) op hop W hT
 have hat:atP 0 op=(match findP 0 mainR op with | some e=>(some e,1) | none=>(none,2)):=rfl
 rw [hat]
 have HT:=Hh hT; clear hT hat
 cases hx:findP 0 mainR op with
 | none =>
   rw [hx] at hf
   have HF:=Hh hf; clear hf hx
   go_enter Tryz.func193,Tryz.ntmps193
   go_wp2_with fail
   refine (HF.out _ (HT.out.below (bl))).mono ?_
   rintro e w1 ⟨v,rfl,hown,hb⟩
   obtain ⟨a1,c1,rfl⟩:=owns_slice hown
   have h0:=blk_below (blk_alloc (blk_new w (.cells #[.int .i64 0,.int .u8 0,.string ⟨#[]⟩,.slice none 0 0,.string ⟨#[]⟩,.bool false] 41))) hb (by simp; omega)
   have h1:=blk_below (blk_new (w.alloc (.cells #[.int .i64 0,.int .u8 0,.string ⟨#[]⟩,.slice none 0 0,.string ⟨#[]⟩,.bool false] 41)) (.cells #[.int .i64 0,.int .u8 0,.string ⟨#[]⟩,.slice none 0 0,.string ⟨#[]⟩,.bool false] 41)) hb (by simp)
   rw [World.size_alloc] at h1
   have HBW:=Hh ((show Below w.heap.size w _ from bl).trans (hb.mono (by simp; omega)))
   obtain ⟨⟨k0,k1,k2,k3,k4,k5⟩,f0,f1,f2,f3,f4,f5⟩:=cells6 h0
   obtain ⟨⟨r0,r1,r2,r3,r4,r5⟩,e0,e1,e2,e3,e4,e5⟩:=cells6 h1
   clear hown hb h0 h1
   simp only [Option.getD_none,Option.isSome_none,ent0]
   go_wp2_with fail
   refine bodyPost_ret (v:=.tuple #[entV ent0 (.slice none 0 0),.int .i64 2]) (by simp [results,Tryz.results193,go_sem,k0,k1,k2,k3,k4,k5,ent0]) rfl ⟨_,rfl,WRow.nil _ _,?_⟩
   have hb9:=HBW.out
   with_reducible repeat (refine Below.setCell ?_ (by first | exact Nat.le_refl _ | exact Nat.le_succ _) _)
   exact hb9
 | some E =>
   rw [hx] at hf
   simp only [Option.getD_some,Option.isSome_some] at hf
   have HF:=Hh hf; clear hf hx
   obtain ⟨p',op',mn,l,ex,al⟩:=E
   show Calls Tryz.prog 193 #[.int .i64 0,.int .u8 op] w fun e w'=>∃ v,e=.returned (.tuple #[.agg #[.int .i64 p',.int .u8 op',.string ⟨mn.toArray⟩,v,.string ⟨ex.toArray⟩,.bool al],.int .i64 1])∧WRow w' w.heap.size v l.length (opc l)∧Below w.heap.size w w'
   dsimp only at HF
   go_enter Tryz.func193,Tryz.ntmps193
   go_wp2_with fail
   refine (HF.out _ (HT.out.below (bl))).mono ?_
   rintro e w1 ⟨v,rfl,hown,hb⟩
   obtain ⟨a1,c1,rfl⟩:=owns_slice hown
   have h0:=blk_below (blk_alloc (blk_new w (.cells #[.int .i64 0,.int .u8 0,.string ⟨#[]⟩,.slice none 0 0,.string ⟨#[]⟩,.bool false] 41))) hb (by simp; omega)
   have h1:=blk_below (blk_new (w.alloc (.cells #[.int .i64 0,.int .u8 0,.string ⟨#[]⟩,.slice none 0 0,.string ⟨#[]⟩,.bool false] 41)) (.cells #[.int .i64 0,.int .u8 0,.string ⟨#[]⟩,.slice none 0 0,.string ⟨#[]⟩,.bool false] 41)) hb (by simp)
   rw [World.size_alloc] at h1
   have HBW:=Hh ((show Below w.heap.size w _ from bl).trans (hb.mono (by simp; omega)))
   have HOWN:=Hh (owns_mono hown (b':=w.heap.size+1+1) (by simp))
   obtain ⟨⟨k0,k1,k2,k3,k4,k5⟩,f0,f1,f2,f3,f4,f5⟩:=cells6 h0
   obtain ⟨⟨r0,r1,r2,r3,r4,r5⟩,e0,e1,e2,e3,e4,e5⟩:=cells6 h1
   clear hown hb h0 h1
   go_wp2_with fail
   refine bodyPost_ret (v:=.tuple #[.agg #[.int .i64 p',.int .u8 op',.string ⟨mn.toArray⟩,.slice a1 l.length c1,.string ⟨ex.toArray⟩,.bool al],.int .i64 1]) (by simp [results,Tryz.results193,go_sem,k0,k1,k2,k3,k4,k5]) rfl ⟨_,rfl,?_,?_⟩
   · exact t94_3
   · exact t94_4
theorem t94_2 {p:Prop} (h:p:=by
 rw [hx] at hf
 have HF:=Hh hf; clear hf hx
 go_enter Tryz.func193,Tryz.ntmps193
 go_wp2_with fail
 refine (HF.out _ (HT.out.below (bl))).mono ?_
 rintro e w1 ⟨v,rfl,hown,hb⟩
 obtain ⟨a1,c1,rfl⟩:=owns_slice hown
 have h0:=blk_below (blk_alloc (blk_new w (.cells #[.int .i64 0,.int .u8 0,.string ⟨#[]⟩,.slice none 0 0,.string ⟨#[]⟩,.bool false] 41))) hb (by simp; omega)
 have h1:=blk_below (blk_new (w.alloc (.cells #[.int .i64 0,.int .u8 0,.string ⟨#[]⟩,.slice none 0 0,.string ⟨#[]⟩,.bool false] 41)) (.cells #[.int .i64 0,.int .u8 0,.string ⟨#[]⟩,.slice none 0 0,.string ⟨#[]⟩,.bool false] 41)) hb (by simp)
 rw [World.size_alloc] at h1
 have HBW:=Hh ((show Below w.heap.size w _ from bl).trans (hb.mono (by simp; omega)))
 obtain ⟨⟨k0,k1,k2,k3,k4,k5⟩,f0,f1,f2,f3,f4,f5⟩:=cells6 h0
 obtain ⟨⟨r0,r1,r2,r3,r4,r5⟩,e0,e1,e2,e3,e4,e5⟩:=cells6 h1
 clear hown hb h0 h1
 simp only [Option.getD_none,Option.isSome_none,ent0]
 go_wp2_with fail
 refine bodyPost_ret (v:=.tuple #[entV ent0 (.slice none 0 0),.int .i64 0]) (by simp [results,Tryz.results193,go_sem,k0,k1,k2,k3,k4,k5,ent0]) rfl ⟨_,rfl,WRow.nil _ _,?_⟩
 have hb9:=HBW.out
 with_reducible repeat (refine Below.setCell ?_ (by first | exact Nat.le_refl _ | exact Nat.le_succ _) _)
 exact hb9):p:=h
set_option maxHeartbeats 4000000 in
set_option maxRecDepth 100000 in
theorem at_1 (op:Nat) (w:World) (hop:op<256) (hT:TabsA w):Calls Tryz.prog 193 #[.int .i64 1,.int .u8 op] w (AtRes (atP 1 op) w):=by
 have hf:=fun W hT=>findT_any 1 cbR cb_all cbS cbS_eq (by decide) (by decide) op hop W hT
 have hat:atP 1 op=(match findP 1 cbR op with | some e=>(some e,1) | none=>(none,0)):=rfl
 rw [hat]
 have HT:=Hh hT; clear hT hat
 cases hx:findP 1 cbR op with
 | none =>
   exact t94_2
 | some E =>
   rw [hx] at hf
   simp only [Option.getD_some,Option.isSome_some] at hf
   have HF:=Hh hf; clear hf hx
   obtain ⟨p',op',mn,l,ex,al⟩:=E
   show Calls Tryz.prog 193 #[.int .i64 1,.int .u8 op] w fun e w'=>∃ v,e=.returned (.tuple #[.agg #[.int .i64 p',.int .u8 op',.string ⟨mn.toArray⟩,v,.string ⟨ex.toArray⟩,.bool al],.int .i64 1])∧WRow w' w.heap.size v l.length (opc l)∧Below w.heap.size w w'
   dsimp only at HF
   go_enter Tryz.func193,Tryz.ntmps193
   go_wp2_with fail
   refine (HF.out _ (HT.out.below (bl))).mono ?_
   rintro e w1 ⟨v,rfl,hown,hb⟩
   obtain ⟨a1,c1,rfl⟩:=owns_slice hown
   have h0:=blk_below (blk_alloc (blk_new w (.cells #[.int .i64 0,.int .u8 0,.string ⟨#[]⟩,.slice none 0 0,.string ⟨#[]⟩,.bool false] 41))) hb (by simp; omega)
   have h1:=blk_below (blk_new (w.alloc (.cells #[.int .i64 0,.int .u8 0,.string ⟨#[]⟩,.slice none 0 0,.string ⟨#[]⟩,.bool false] 41)) (.cells #[.int .i64 0,.int .u8 0,.string ⟨#[]⟩,.slice none 0 0,.string ⟨#[]⟩,.bool false] 41)) hb (by simp)
   rw [World.size_alloc] at h1
   have HBW:=Hh ((show Below w.heap.size w _ from bl).trans (hb.mono (by simp; omega)))
   have HOWN:=Hh (owns_mono hown (b':=w.heap.size+1+1) (by simp))
   obtain ⟨⟨k0,k1,k2,k3,k4,k5⟩,f0,f1,f2,f3,f4,f5⟩:=cells6 h0
   obtain ⟨⟨r0,r1,r2,r3,r4,r5⟩,e0,e1,e2,e3,e4,e5⟩:=cells6 h1
   clear hown hb h0 h1
   go_wp2_with fail
   refine bodyPost_ret (v:=.tuple #[.agg #[.int .i64 p',.int .u8 op',.string ⟨mn.toArray⟩,.slice a1 l.length c1,.string ⟨ex.toArray⟩,.bool al],.int .i64 1]) (by simp [results,Tryz.results193,go_sem,k0,k1,k2,k3,k4,k5]) rfl ⟨_,rfl,?_,?_⟩
   · exact t94_3
   · exact t94_4
set_option maxHeartbeats 4000000 in
set_option maxRecDepth 100000 in
theorem at_2 (op:Nat) (w:World) (hop:op<256) (hT:TabsA w):Calls Tryz.prog 193 #[.int .i64 2,.int .u8 op] w (AtRes (atP 2 op) w):=by
 have hf:=fun W hT=>findT_any 2 edR ed_all edS edS_eq (by decide) (by decide) op hop W hT
 have hat:atP 2 op=(match findP 2 edR op with | some e=>(some e,1) | none=>(none,3)):=rfl
 rw [hat]
 have HT:=Hh hT; clear hT hat
 cases hx:findP 2 edR op with
 | none =>
   rw [hx] at hf
   have HF:=Hh hf; clear hf hx
   go_enter Tryz.func193,Tryz.ntmps193
   go_wp2_with fail
   refine (HF.out _ (HT.out.below (bl))).mono ?_
   rintro e w1 ⟨v,rfl,hown,hb⟩
   obtain ⟨a1,c1,rfl⟩:=owns_slice hown
   have h0:=blk_below (blk_alloc (blk_new w (.cells #[.int .i64 0,.int .u8 0,.string ⟨#[]⟩,.slice none 0 0,.string ⟨#[]⟩,.bool false] 41))) hb (by simp; omega)
   have h1:=blk_below (blk_new (w.alloc (.cells #[.int .i64 0,.int .u8 0,.string ⟨#[]⟩,.slice none 0 0,.string ⟨#[]⟩,.bool false] 41)) (.cells #[.int .i64 0,.int .u8 0,.string ⟨#[]⟩,.slice none 0 0,.string ⟨#[]⟩,.bool false] 41)) hb (by simp)
   rw [World.size_alloc] at h1
   have HBW:=Hh ((show Below w.heap.size w _ from bl).trans (hb.mono (by simp; omega)))
   obtain ⟨⟨k0,k1,k2,k3,k4,k5⟩,f0,f1,f2,f3,f4,f5⟩:=cells6 h0
   obtain ⟨⟨r0,r1,r2,r3,r4,r5⟩,e0,e1,e2,e3,e4,e5⟩:=cells6 h1
   clear hown hb h0 h1
   simp only [Option.getD_none,Option.isSome_none,ent0]
   go_wp2_with fail
   refine bodyPost_ret (v:=.tuple #[entV ent0 (.slice none 0 0),.int .i64 3]) (by simp [results,Tryz.results193,go_sem,k0,k1,k2,k3,k4,k5,ent0]) rfl ⟨_,rfl,WRow.nil _ _,?_⟩
   have hb9:=HBW.out
   with_reducible repeat (refine Below.setCell ?_ (by first | exact Nat.le_refl _ | exact Nat.le_succ _) _)
   exact hb9
 | some E =>
   rw [hx] at hf
   simp only [Option.getD_some,Option.isSome_some] at hf
   have HF:=Hh hf; clear hf hx
   obtain ⟨p',op',mn,l,ex,al⟩:=E
   show Calls Tryz.prog 193 #[.int .i64 2,.int .u8 op] w fun e w'=>∃ v,e=.returned (.tuple #[.agg #[.int .i64 p',.int .u8 op',.string ⟨mn.toArray⟩,v,.string ⟨ex.toArray⟩,.bool al],.int .i64 1])∧WRow w' w.heap.size v l.length (opc l)∧Below w.heap.size w w'
   dsimp only at HF
   go_enter Tryz.func193,Tryz.ntmps193
   go_wp2_with fail
   refine (HF.out _ (HT.out.below (bl))).mono ?_
   rintro e w1 ⟨v,rfl,hown,hb⟩
   obtain ⟨a1,c1,rfl⟩:=owns_slice hown
   have h0:=blk_below (blk_alloc (blk_new w (.cells #[.int .i64 0,.int .u8 0,.string ⟨#[]⟩,.slice none 0 0,.string ⟨#[]⟩,.bool false] 41))) hb (by simp; omega)
   have h1:=blk_below (blk_new (w.alloc (.cells #[.int .i64 0,.int .u8 0,.string ⟨#[]⟩,.slice none 0 0,.string ⟨#[]⟩,.bool false] 41)) (.cells #[.int .i64 0,.int .u8 0,.string ⟨#[]⟩,.slice none 0 0,.string ⟨#[]⟩,.bool false] 41)) hb (by simp)
   rw [World.size_alloc] at h1
   have HBW:=Hh ((show Below w.heap.size w _ from bl).trans (hb.mono (by simp; omega)))
   have HOWN:=Hh (owns_mono hown (b':=w.heap.size+1+1) (by simp))
   obtain ⟨⟨k0,k1,k2,k3,k4,k5⟩,f0,f1,f2,f3,f4,f5⟩:=cells6 h0
   obtain ⟨⟨r0,r1,r2,r3,r4,r5⟩,e0,e1,e2,e3,e4,e5⟩:=cells6 h1
   clear hown hb h0 h1
   go_wp2_with fail
   refine bodyPost_ret (v:=.tuple #[.agg #[.int .i64 p',.int .u8 op',.string ⟨mn.toArray⟩,.slice a1 l.length c1,.string ⟨ex.toArray⟩,.bool al],.int .i64 1]) (by simp [results,Tryz.results193,go_sem,k0,k1,k2,k3,k4,k5]) rfl ⟨_,rfl,?_,?_⟩
   · exact t94_3
   · exact t94_4
theorem tl (l:List UInt8):(⟨l.toArray⟩:ByteArray).toList=l:=by rw [ByteArray.toList_eq]
theorem idxI_some {l:List Op3} {k:Nat} (h:idxAt l=some k):idxI l (4,2,0)=k∧k<l.length:=by
 unfold idxAt at h
 unfold idxI
 rw [h]
 exact ⟨rfl,(List.findIdx?_eq_some_iff_getElem.1 h).1⟩
theorem idxI_none {l:List Op3} (h:idxAt l=none):idxI l (4,2,0)=-1:=by
 unfold idxAt at h
 unfold idxI
 rw [h]
def IdxRes (y:Option Ent) (w:World) (e:Ending) (w':World):Prop :=
 ∃ (p:Int) (o:Nat) (m ex:ByteArray) (a:Option Addr) (n c:Nat) (al:Bool),e=.returned (.tuple #[.agg #[.int .i64 p,.int .u8 o,.string m,.slice a n c,.string ex,.bool al],.bool y.isSome]) ∧
  (∀ z,y=some z→p=z.page∧o=z.op∧m=⟨z.mn.toArray⟩∧ex=⟨z.extra.toArray⟩∧al=z.alias∧WRow w' w.heap.size (.slice a n c) z.args.length (opc z.args))∧Below w.heap.size w w'
theorem indexed_any (E:Ent) (page:Nat) (v:Value) (w:World) (hp1:3≤page) (hp2:page≤4) (hrow:Row w v E.args.length (opc E.args)) (hl:E.args.length≤3) (hmn:upper ⟨E.mn.toArray⟩=⟨E.mn.toArray⟩) (hml:E.mn.length≤100) (hxl:E.extra.length≤100) :
 Calls Tryz.prog 258 #[entV E v,.int .i64 page] w (IdxRes (indexedP E page) w):=by
 have hms:(⟨E.mn.toArray⟩:ByteArray).size≤100:=by show E.mn.toArray.size≤100; rw [List.size_toArray]; exact hml
 have hxs:(⟨E.extra.toArray⟩:ByteArray).size≤100:=by show E.extra.toArray.size≤100; rw [List.size_toArray]; exact hxl
 unfold indexedP
 dsimp only
 by_cases hc:(idxAt E.args).isSome=true∧E.mn≠[74,80]
 · rw [if_pos hc]
   obtain ⟨k,hk⟩:=Option.isSome_iff_exists.1 hc.1
   obtain ⟨h1,h2⟩:=idxI_some hk
   refine (indexed_mem _ _ _ _ _ _ _ page k w hp1 hp2 hrow hl hmn hms hxs h1 h2 (by rw [tl]; simpa using hc.2)).mono ?_
   rintro e w' ⟨v',he,ho,hb⟩
   have ho2:=ho
   obtain ⟨a,c,rfl,_⟩:=ho2
   refine ⟨_,_,_,_,_,_,_,_,he,fun z hz=>?_,hb⟩
   cases hz
   refine ⟨rfl,rfl,rfl,by apply ba_ext2; simp,rfl,?_⟩
   rw [hk]
   simp only [Option.getD_some,List.length_set]
   exact ho
 · rw [if_neg hc]
   have hcc:idxI E.args (4,2,0)=-1∨(∃ k:Nat,idxI E.args (4,2,0)=k∧k≤3)∧((⟨E.mn.toArray⟩:ByteArray).toList == [74,80])=true:=by
    cases hk:idxAt E.args with
    | none=>exact .inl (idxI_none hk)
    | some k =>
      obtain ⟨h1,h2⟩:=idxI_some hk
      right
      refine ⟨⟨k,h1,by omega⟩,?_⟩
      rw [tl]
      have:E.mn=[74,80]:=Decidable.of_not_not (fun h=>hc ⟨by rw [hk]; rfl,h⟩)
      rw [this]; rfl
   refine (indexed_loop _ E.op _ _ _ _ _ page _ w hp1 hp2 hrow hl hmn hms rfl hcc).mono ?_
   rintro e w' ⟨x,he,hx,hb⟩
   have hany:E.args.any (chgB ((page:Int) - 3+5))=E.args.any (fun o=>(chgP ((page:Int) - 3+5) o).isSome):=rfl
   rcases hx with ⟨h235,rfl⟩ | ⟨h235,v',rfl,ho⟩
   · rw [if_pos h235]
     exact ⟨0,0,⟨#[]⟩,⟨#[]⟩,none,0,0,false,by rw [he,h235]; rfl,(fun z hz=>by cases hz),hb⟩
   · rw [if_neg h235]
     have ho2:=ho
     obtain ⟨a,c,rfl,_⟩:=ho2
     rw [bne_iff_ne.2 h235,Bool.true_and,hany] at he
     by_cases ha:E.args.any (fun o=>(chgP ((page:Int) - 3+5) o).isSome)=true
     · rw [if_pos ha]
       rw [ha] at he
       refine ⟨_,_,_,_,_,_,_,_,he,fun z hz=>?_,hb⟩
       cases hz
       refine ⟨rfl,rfl,rfl,rfl,rfl,?_⟩
       rw [List.length_map]
       exact ho
     · rw [if_neg ha]
       rw [show E.args.any (fun o=>(chgP ((page:Int) - 3+5) o).isSome)=false from (Bool.not_eq_true _).mp ha] at he
       exact ⟨_,_,_,_,_,_,_,_,he,(fun z hz=>by cases hz),hb⟩
theorem main_upper:∀ r∈mainR,upper ⟨r.mn.toArray⟩=⟨r.mn.toArray⟩∧r.mn.length≤100:=by decide +kernel
theorem find_main {page op:Nat} {E:Ent} (h:findP page mainR op=some E):upper ⟨E.mn.toArray⟩=⟨E.mn.toArray⟩∧E.mn.length≤100∧E.args.length≤3∧E.extra.length≤100:=by
 unfold findP at h
 obtain ⟨r,hr,rfl⟩:=Option.map_eq_some_iff.1 h
 have hm:=lookR_mem hr
 obtain ⟨h1,h2⟩:=main_upper r hm
 have h3:=rule_len (main_all r hm)
 refine ⟨h1,h2,by rw [entOf_len]; exact h3,?_⟩
 have:=xOf_short r.bits op r.args
 show (xOf r.bits op r.args).length≤100
 omega
theorem t94_6 {p:Prop} (h:p:=by
 rw [←hW]
 exact Row.of_owns (Kb.owns HOWN.out (((((((Kb.refl (w.heap.size+1) _).setCell 0 _).setCell 1 _).setCell 2 _).setCell 3 _).setCell 4 _).setCell 5 _) (own_ne HOWN.out (k:=w.heap.size+1) (by omega)).symm)):p:=h
theorem t94_8 {p:Prop} (h:p:=by
 rw [←hW]
 exact blk_other (blk_other (blk_other (blk_other (blk_other (blk_other H0.out (by omega)) (by omega)) (by omega)) (by omega)) (by omega)) (by omega)):p:=h
theorem t94_9 {p:Prop} (h:p:=by
 rw [←hW]
 have hb9:=HBW.out
 with_reducible repeat (refine Below.setCell ?_ (by exact Nat.le_succ _) _)
 exact hb9):p:=h
theorem t94_0 {p:Prop} (h:p:=by
 dsimp only
 go_enter Tryz.func193,Tryz.ntmps193
 go_wp2_with fail
 refine (HF.out _ (HT.out.below (bl))).mono ?_
 rintro e w1 ⟨v,rfl,hown,hb⟩
 obtain ⟨a1,c1,rfl⟩:=owns_slice hown
 have h0:=blk_below (blk_alloc (blk_new w (.cells #[.int .i64 0,.int .u8 0,.string ⟨#[]⟩,.slice none 0 0,.string ⟨#[]⟩,.bool false] 41))) hb (by simp; omega)
 have h1:=blk_below (blk_new (w.alloc (.cells #[.int .i64 0,.int .u8 0,.string ⟨#[]⟩,.slice none 0 0,.string ⟨#[]⟩,.bool false] 41)) (.cells #[.int .i64 0,.int .u8 0,.string ⟨#[]⟩,.slice none 0 0,.string ⟨#[]⟩,.bool false] 41)) hb (by simp)
 rw [World.size_alloc] at h1
 have HBW:=Hh ((show Below w.heap.size w _ from bl).trans (hb.mono (by simp; omega)))
 have HOWN:=Hh (owns_mono hown (b':=w.heap.size+1+1) (by simp))
 have H0:=Hh h0
 have H1:=Hh h1
 obtain ⟨⟨r0,r1,r2,r3,r4,r5⟩,e0,e1,e2,e3,e4,e5⟩:=cells6 h1
 clear hown hb h0 h1
 go_wp2_with fail
 obtain ⟨W,hW⟩:∃ W,((((((w1.setCell ⟨w.heap.size+1,0,none⟩ (.int .i64 p')).setCell ⟨w.heap.size+1,1,none⟩ (.int .u8 op')).setCell ⟨w.heap.size+1,2,none⟩ (.string ⟨mn.toArray⟩)).setCell ⟨w.heap.size+1,3,none⟩ (.slice a1 l.length c1)).setCell ⟨w.heap.size+1,4,none⟩ (.string ⟨ex.toArray⟩)).setCell ⟨w.heap.size+1,5,none⟩ (.bool al))=W:=⟨_,rfl⟩
 rw [hW]
 have hownW:Row W (.slice a1 l.length c1) l.length (opc l):=by
  exact t94_6
 have g0:W.heap[w.heap.size]? = some (.cells #[.int .i64 0,.int .u8 0,.string ⟨#[]⟩,.slice none 0 0,.string ⟨#[]⟩,.bool false] 41 (0,0)):=by
  exact t94_8
 have g1:W.heap[w.heap.size+1]? = some (.cells #[.int .i64 p',.int .u8 op',.string ⟨mn.toArray⟩,.slice a1 l.length c1,.string ⟨ex.toArray⟩,.bool al] 41 (0,0)):=by
  rw [←hW]
  exact blk_set (blk_set (blk_set (blk_set (blk_set (blk_set H1.out)))))
 have hbW:Below w.heap.size w W:=by
  exact t94_9
 have hlW:=blk_lt g1
 clear hW HOWN HBW H0 H1 r0 r1 r2 r3 r4 r5 e0 e1 e2 e3 e4 e5
 refine (HI.out _ _ hownW).mono ?_
 rintro e w2 ⟨pp,oo,mm,xx,aa,nn,cc,ll,rfl,hz,hb2⟩
 have h0:=blk_below g0 hb2 (by omega)
 have h1:=blk_below g1 hb2 hlW
 have HBW:=Hh (hbW.trans (hb2.mono hbW.size))
 have HZ:=Hh hz
 obtain ⟨⟨k0,k1,k2,k3,k4,k5⟩,f0,f1,f2,f3,f4,f5⟩:=cells6 h0
 obtain ⟨⟨r0,r1,r2,r3,r4,r5⟩,e0,e1,e2,e3,e4,e5⟩:=cells6 h1
 clear hz g0 g1 hb2 h0 h1 hownW hbW
 simp only [Option.isSome_some]
 go_wp2_with fail
 refine bodyPost_ret (v:=.tuple #[.agg #[.int .i64 pp,.int .u8 oo,.string mm,.slice aa nn cc,.string xx,.bool ll],.int .i64 1]) (by simp [results,Tryz.results193,go_sem,k0,k1,k2,k3,k4,k5]) rfl ⟨.slice aa nn cc,?_,?_,?_⟩
 · obtain ⟨q1,q2,q3,q4,q5,_⟩:=HZ.out E2 rfl
   rw [q1,q2,q3,q4,q5]
   rfl
 · obtain ⟨_,_,_,_,_,hr⟩:=HZ.out E2 rfl
   exact ((hr.kb (((((((Kb.refl (w.heap.size+1) _).setCell 0 _).setCell 1 _).setCell 2 _).setCell 3 _).setCell 4 _).setCell 5 _) (by omega)).kb (((((((Kb.refl w.heap.size _).setCell 0 _).setCell 1 _).setCell 2 _).setCell 3 _).setCell 4 _).setCell 5 _) (by omega)).mono (by omega)
 · have hb9:=HBW.out
   with_reducible repeat (refine Below.setCell ?_ (by first | exact Nat.le_refl _ | exact Nat.le_succ _) _)
   exact hb9):p:=h
theorem t94_1 {p:Prop} (h:p:=by
 dsimp only
 go_enter Tryz.func193,Tryz.ntmps193
 go_wp2_with fail
 refine (HF.out _ (HT.out.below (bl))).mono ?_
 rintro e w1 ⟨v,rfl,hown,hb⟩
 obtain ⟨a1,c1,rfl⟩:=owns_slice hown
 have h0:=blk_below (blk_alloc (blk_new w (.cells #[.int .i64 0,.int .u8 0,.string ⟨#[]⟩,.slice none 0 0,.string ⟨#[]⟩,.bool false] 41))) hb (by simp; omega)
 have h1:=blk_below (blk_new (w.alloc (.cells #[.int .i64 0,.int .u8 0,.string ⟨#[]⟩,.slice none 0 0,.string ⟨#[]⟩,.bool false] 41)) (.cells #[.int .i64 0,.int .u8 0,.string ⟨#[]⟩,.slice none 0 0,.string ⟨#[]⟩,.bool false] 41)) hb (by simp)
 rw [World.size_alloc] at h1
 have HBW:=Hh ((show Below w.heap.size w _ from bl).trans (hb.mono (by simp; omega)))
 have HOWN:=Hh (owns_mono hown (b':=w.heap.size+1+1) (by simp))
 have H0:=Hh h0
 have H1:=Hh h1
 obtain ⟨⟨r0,r1,r2,r3,r4,r5⟩,e0,e1,e2,e3,e4,e5⟩:=cells6 h1
 clear hown hb h0 h1
 go_wp2_with fail
 obtain ⟨W,hW⟩:∃ W,((((((w1.setCell ⟨w.heap.size+1,0,none⟩ (.int .i64 p')).setCell ⟨w.heap.size+1,1,none⟩ (.int .u8 op')).setCell ⟨w.heap.size+1,2,none⟩ (.string ⟨mn.toArray⟩)).setCell ⟨w.heap.size+1,3,none⟩ (.slice a1 l.length c1)).setCell ⟨w.heap.size+1,4,none⟩ (.string ⟨ex.toArray⟩)).setCell ⟨w.heap.size+1,5,none⟩ (.bool al))=W:=⟨_,rfl⟩
 rw [hW]
 have hownW:Row W (.slice a1 l.length c1) l.length (opc l):=by
  exact t94_6
 have g0:W.heap[w.heap.size]? = some (.cells #[.int .i64 0,.int .u8 0,.string ⟨#[]⟩,.slice none 0 0,.string ⟨#[]⟩,.bool false] 41 (0,0)):=by
  exact t94_8
 have g1:W.heap[w.heap.size+1]? = some (.cells #[.int .i64 p',.int .u8 op',.string ⟨mn.toArray⟩,.slice a1 l.length c1,.string ⟨ex.toArray⟩,.bool al] 41 (0,0)):=by
  rw [←hW]
  exact blk_set (blk_set (blk_set (blk_set (blk_set (blk_set H1.out)))))
 have hbW:Below w.heap.size w W:=by
  exact t94_9
 have hlW:=blk_lt g1
 clear hW HOWN HBW H0 H1 r0 r1 r2 r3 r4 r5 e0 e1 e2 e3 e4 e5
 refine (HI.out _ _ hownW).mono ?_
 rintro e w2 ⟨pp,oo,mm,xx,aa,nn,cc,ll,rfl,hz,hb2⟩
 have h0:=blk_below g0 hb2 (by omega)
 have h1:=blk_below g1 hb2 hlW
 have HBW:=Hh (hbW.trans (hb2.mono hbW.size))
 have HZ:=Hh hz
 obtain ⟨⟨k0,k1,k2,k3,k4,k5⟩,f0,f1,f2,f3,f4,f5⟩:=cells6 h0
 obtain ⟨⟨r0,r1,r2,r3,r4,r5⟩,e0,e1,e2,e3,e4,e5⟩:=cells6 h1
 clear hz g0 g1 hb2 h0 h1 hownW hbW
 simp only [Option.isSome_none]
 go_wp2_with fail
 refine bodyPost_ret (v:=.tuple #[entV ent0 (.slice none 0 0),.int .i64 0]) (by simp [results,Tryz.results193,go_sem,k0,k1,k2,k3,k4,k5,ent0]) rfl ⟨_,rfl,WRow.nil _ _,?_⟩
 have hb9:=HBW.out
 with_reducible repeat (refine Below.setCell ?_ (by first | exact Nat.le_refl _ | exact Nat.le_succ _) _)
 exact hb9):p:=h
theorem t94_5 {p:Prop} (h:p:=by
 subst hcb
 rw [if_pos rfl]
 go_enter Tryz.func193,Tryz.ntmps193
 go_wp2_with fail
 refine bodyPost_ret (v:=.tuple #[entV ent0 (.slice none 0 0),.int .i64 2]) (by simp [results,Tryz.results193,go_sem,ent0]) rfl ⟨_,rfl,WRow.nil _ _,bl⟩):p:=h
set_option maxHeartbeats 4000000 in
set_option maxRecDepth 100000 in
theorem at_3 (op:Nat) (w:World) (hop:op<256) (hT:TabsA w):Calls Tryz.prog 193 #[.int .i64 3,.int .u8 op] w (AtRes (atP 3 op) w):=by
 have hf:=fun W hT=>findT_any 3 mainR main_all mainS mainS_eq (by decide) (by decide) op hop W hT
 have hat:atP 3 op=(if op=0xCB then (none,2) else match (findP 3 mainR op).bind (indexedP · 3) with | some e=>(some e,1) | none=>(none,0)):=rfl
 rw [hat]
 have HT:=Hh hT; clear hT hat
 by_cases hcb:op=0xCB
 · exact t94_5
 rw [if_neg hcb]
 have hbcb:((op:Int) == 203)=false:=by rw [beq_eq_false_iff_ne]; omega
 clear hcb
 cases hx:findP 3 mainR op with
 | none =>
   exact t94_2
 | some E =>
   rw [hx] at hf
   obtain ⟨hu,hml,hal,hel⟩:=find_main hx
   simp only [Option.getD_some,Option.isSome_some] at hf
   have hidx:=fun v W hr=>indexed_any E 3 v W (by decide) (by decide) hr hal hu hml hel
   show Calls Tryz.prog 193 #[.int .i64 3,.int .u8 op] w (AtRes (match indexedP E 3 with | some e=>(some e,1) | none=>(none,0)) w)
   obtain ⟨Y,hY⟩:∃ Y,indexedP E 3=Y:=⟨_,rfl⟩
   rw [hY] at hidx ⊢
   have HF:=Hh hf
   have HI:=Hh hidx
   clear hf hx hidx hY hu hml hal hel
   obtain ⟨p',op',mn,l,ex,al⟩:=E
   dsimp only at HF HI
   unfold entV at HI HF
   dsimp only at HF HI
   cases Y with
   | none =>
     exact t94_1
   | some E2 =>
     exact t94_0
set_option maxHeartbeats 4000000 in
set_option maxRecDepth 100000 in
theorem at_4 (op:Nat) (w:World) (hop:op<256) (hT:TabsA w):Calls Tryz.prog 193 #[.int .i64 4,.int .u8 op] w (AtRes (atP 4 op) w):=by
 have hf:=fun W hT=>findT_any 4 mainR main_all mainS mainS_eq (by decide) (by decide) op hop W hT
 have hat:atP 4 op=(if op=0xCB then (none,2) else match (findP 4 mainR op).bind (indexedP · 4) with | some e=>(some e,1) | none=>(none,0)):=rfl
 rw [hat]
 have HT:=Hh hT; clear hT hat
 by_cases hcb:op=0xCB
 · exact t94_5
 rw [if_neg hcb]
 have hbcb:((op:Int) == 203)=false:=by rw [beq_eq_false_iff_ne]; omega
 clear hcb
 cases hx:findP 4 mainR op with
 | none =>
   exact t94_2
 | some E =>
   rw [hx] at hf
   obtain ⟨hu,hml,hal,hel⟩:=find_main hx
   simp only [Option.getD_some,Option.isSome_some] at hf
   have hidx:=fun v W hr=>indexed_any E 4 v W (by decide) (by decide) hr hal hu hml hel
   show Calls Tryz.prog 193 #[.int .i64 4,.int .u8 op] w (AtRes (match indexedP E 4 with | some e=>(some e,1) | none=>(none,0)) w)
   obtain ⟨Y,hY⟩:∃ Y,indexedP E 4=Y:=⟨_,rfl⟩
   rw [hY] at hidx ⊢
   have HF:=Hh hf
   have HI:=Hh hidx
   clear hf hx hidx hY hu hml hal hel
   obtain ⟨p',op',mn,l,ex,al⟩:=E
   dsimp only at HF HI
   unfold entV at HI HF
   dsimp only at HF HI
   cases Y with
   | none =>
     exact t94_1
   | some E2 =>
     exact t94_0
theorem t94_7 {p:Prop} (h:p:=by
 exact ((WRow.of_owns HOWN.out).kb (((((((Kb.refl w.heap.size _).setCell 0 _).setCell 1 _).setCell 2 _).setCell 3 _).setCell 4 _).setCell 5 _) (by omega)).mono (by omega)):p:=h
set_option maxHeartbeats 4000000 in
set_option maxRecDepth 100000 in
theorem at_5 (op:Nat) (w:World) (hop:op<256) (hT:TabsA w):Calls Tryz.prog 193 #[.int .i64 5,.int .u8 op] w (AtRes (atP 5 op) w):=by
 have hf:=fun W hT=>both_any 5 op W (by decide) (by decide) hop hT
 have hat:atP 5 op=(bothP 5 op,1):=rfl
 rw [hat]
 have HT:=Hh hT; clear hT hat
 generalize bothP 5 op=Y at *
 have HF:=Hh hf; clear hf
 go_enter Tryz.func193,Tryz.ntmps193
 go_wp2_with fail
 refine (HF.out _ (HT.out.below (bl))).mono ?_
 rintro e w1 ⟨E,v,rfl,rfl,hown,hb⟩
 obtain ⟨a1,c1,rfl⟩:=owns_slice hown
 have h0:=blk_below (blk_alloc (blk_new w (.cells #[.int .i64 0,.int .u8 0,.string ⟨#[]⟩,.slice none 0 0,.string ⟨#[]⟩,.bool false] 41))) hb (by simp; omega)
 have HBW:=Hh ((show Below w.heap.size w _ from bl).trans (hb.mono (by simp; omega)))
 have HOWN:=Hh (owns_mono hown (b':=w.heap.size+1+1) (by simp))
 obtain ⟨⟨k0,k1,k2,k3,k4,k5⟩,f0,f1,f2,f3,f4,f5⟩:=cells6 h0
 clear hown hb h0
 obtain ⟨p',op',mn,l,ex,al⟩:=E
 dsimp only at HOWN
 go_wp2_with fail
 refine bodyPost_ret (v:=.tuple #[.agg #[.int .i64 p',.int .u8 op',.string ⟨mn.toArray⟩,.slice a1 l.length c1,.string ⟨ex.toArray⟩,.bool al],.int .i64 1]) (by simp [results,Tryz.results193,go_sem,k0,k1,k2,k3,k4,k5]) rfl ⟨.slice a1 l.length c1,rfl,?_,?_⟩
 · exact t94_7
 · exact t94_4
set_option maxHeartbeats 4000000 in
set_option maxRecDepth 100000 in
theorem at_6 (op:Nat) (w:World) (hop:op<256) (hT:TabsA w):Calls Tryz.prog 193 #[.int .i64 6,.int .u8 op] w (AtRes (atP 6 op) w):=by
 have hf:=fun W hT=>both_any 6 op W (by decide) (by decide) hop hT
 have hat:atP 6 op=(bothP 6 op,1):=rfl
 rw [hat]
 have HT:=Hh hT; clear hT hat
 generalize bothP 6 op=Y at *
 have HF:=Hh hf; clear hf
 go_enter Tryz.func193,Tryz.ntmps193
 go_wp2_with fail
 refine (HF.out _ (HT.out.below (bl))).mono ?_
 rintro e w1 ⟨E,v,rfl,rfl,hown,hb⟩
 obtain ⟨a1,c1,rfl⟩:=owns_slice hown
 have h0:=blk_below (blk_alloc (blk_new w (.cells #[.int .i64 0,.int .u8 0,.string ⟨#[]⟩,.slice none 0 0,.string ⟨#[]⟩,.bool false] 41))) hb (by simp; omega)
 have HBW:=Hh ((show Below w.heap.size w _ from bl).trans (hb.mono (by simp; omega)))
 have HOWN:=Hh (owns_mono hown (b':=w.heap.size+1+1) (by simp))
 obtain ⟨⟨k0,k1,k2,k3,k4,k5⟩,f0,f1,f2,f3,f4,f5⟩:=cells6 h0
 clear hown hb h0
 obtain ⟨p',op',mn,l,ex,al⟩:=E
 dsimp only at HOWN
 go_wp2_with fail
 refine bodyPost_ret (v:=.tuple #[.agg #[.int .i64 p',.int .u8 op',.string ⟨mn.toArray⟩,.slice a1 l.length c1,.string ⟨ex.toArray⟩,.bool al],.int .i64 1]) (by simp [results,Tryz.results193,go_sem,k0,k1,k2,k3,k4,k5]) rfl ⟨.slice a1 l.length c1,rfl,?_,?_⟩
 · exact t94_7
 · exact t94_4
theorem at_any (page op:Nat) (w:World) (hp:page<7) (hop:op<256) (hT:TabsA w):Calls Tryz.prog 193 #[.int .i64 page,.int .u8 op] w (AtRes (atP page op) w):=by
 have:page=0∨page=1∨page=2∨page=3∨page=4∨page=5∨page=6:=by omega
 rcases this with rfl | rfl | rfl | rfl | rfl | rfl | rfl
 · exact at_0 op w hop hT
 · exact at_1 op w hop hT
 · exact at_2 op w hop hT
 · exact at_3 op w hop hT
 · exact at_4 op w hop hT
 · exact at_5 op w hop hT
 · exact at_6 op w hop hT
end Go.Proofs.YtkldoojonnkfgaaGreatDoor
