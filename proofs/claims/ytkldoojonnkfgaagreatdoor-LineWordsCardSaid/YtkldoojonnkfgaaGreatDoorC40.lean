/- Joined texts: WidthT, NumsT, OfT, FindS, LegalT. -/
import Derived.Test.YtkldoojonnkfgaaGreatDoorC39
namespace Go.Proofs.YtkldoojonnkfgaaGreatDoor
open Go.RowKit Go.Sort
def bitT:List UInt8:=[66,73,84,32,82,69,83,32,83,69,84,32,73,77,32,82,83,84,32,79,85,84]
def jpT:List UInt8:=[74,80,32,67,65,76,76]
theorem bitT_fields:Lib.fields bitT=[[66,73,84],[82,69,83],[83,69,84],[73,77],[82,83,84],[79,85,84]]:=by decide +kernel
theorem jpT_fields:Lib.fields jpT=[[74,80],[67,65,76,76]]:=by decide +kernel
theorem bitW_any (m:List UInt8) (w:World) (hT:TabsA w):Calls Tryz.prog 167 #[.string ⟨#[66,73,84,32,82,69,83,32,83,69,84,32,73,77,32,82,83,84,32,79,85,84]⟩,.string ⟨m.toArray⟩] w fun e w'=>e=.returned (.bool (decide (m∈([[66,73,84],[82,69,83],[83,69,84],[73,77],[82,83,84],[79,85,84]]:List (List UInt8)))))∧Below w.heap.size w w':=by
 have h:=cword_any bitT m w hT (by decide) (by decide +kernel) (by rw [bitT_fields]; decide)
 rw [bitT_fields] at h
 exact h
theorem jpW_any (m:List UInt8) (w:World) (hT:TabsA w):Calls Tryz.prog 167 #[.string ⟨#[74,80,32,67,65,76,76]⟩,.string ⟨m.toArray⟩] w fun e w'=>e=.returned (.bool (decide (m∈([[74,80],[67,65,76,76]]:List (List UInt8)))))∧Below w.heap.size w w':=by
 have h:=cword_any jpT m w hT (by decide) (by decide +kernel) (by rw [jpT_fields]; decide)
 rw [jpT_fields] at h
 exact h
set_option maxRecDepth 100000 in
set_option maxHeartbeats 4000000 in
theorem width_any (m:List UInt8) (v:Value) (l:List Op3) (w:World) (hT:TabsA w) (hr:Row w v l.length (opc l)) (hl:l.length≤1000) :
 Calls Tryz.prog 170 #[insV m v] w fun e w'=>e=.returned (.int .i64 (widthP (m,l)))∧Below w.heap.size w w':=by
 have hbit:=fun X (hb:Below w.heap.size w X)=>bitW_any m X (hT.below hb)
 have hjp:=fun X (hb:Below w.heap.size w X)=>jpW_any m X (hT.below hb)
 have HR:=Hh hr
 obtain ⟨a,c,rfl,hc,_⟩:=hr
 by_cases h1:m∈([[66,73,84],[82,69,83],[83,69,84],[73,77],[82,83,84],[79,85,84]]:List (List UInt8))
 · have hw:widthP (m,l)=0:=by unfold widthP; rw [if_pos h1]
   rw [hw]
   rw [decide_eq_true h1] at hbit
   have HBIT:=Hh hbit; clear hbit hjp h1 hw
   go_enter Tryz.func170,Tryz.ntmps170
   go_wp2_with fail
   refine (HBIT.out _ (bl)).mono ?_
   rintro e w1 ⟨rfl,hb1⟩
   obtain ⟨p1,rfl⟩:=gw_of_below hb1
   clear hb1
   go_wp2_with fail
   go_ret
   exact ⟨rfl,bl⟩
 · rw [decide_eq_false h1] at hbit
   have HBIT:=Hh hbit; clear hbit
   by_cases h2:m∈([[74,80],[67,65,76,76]]:List (List UInt8))
   · have hw:widthP (m,l)=2:=by unfold widthP; rw [if_neg h1,if_pos (.inl h2)]
     rw [hw]
     rw [decide_eq_true h2] at hjp
     have HJP:=Hh hjp; clear hjp h1 h2 hw
     go_enter Tryz.func170,Tryz.ntmps170
     go_wp2_with fail
     refine (HBIT.out _ (bl)).mono ?_
     rintro e w1 ⟨rfl,hb1⟩
     obtain ⟨p1,rfl⟩:=gw_of_below hb1
     clear hb1
     go_wp2_with fail
     refine (HJP.out _ (bl)).mono ?_
     rintro e w2 ⟨rfl,hb2⟩
     obtain ⟨p2,rfl⟩:=gw_of_below hb2
     clear hb2
     go_wp2_with fail
     go_ret
     exact ⟨rfl,bl⟩
   · rw [decide_eq_false h2] at hjp
     have HJP:=Hh hjp; clear hjp
     have hw:widthP (m,l)=if m=[76,68]∧l.head?.map (·.1)=some 3 then 2 else 1:=by
      unfold widthP
      rw [if_neg h1]
      by_cases h3:m=[76,68]∧l.head?.map (·.1)=some 3
      · rw [if_pos (.inr h3),if_pos h3]
      · rw [if_neg (fun h=>h.elim h2 h3),if_neg h3]
     rw [hw]
     clear h1 h2 hw
     by_cases h3:m=[76,68]
     · have hm2:(m == [76,68])=true:=by rw [h3]; rfl
       cases l with
       | nil =>
         rw [if_neg (by simp)]
         have HM:=Hh h3; clear h3
         go_enter Tryz.func170,Tryz.ntmps170
         go_wp2_with fail
         refine (HBIT.out _ (bl)).mono ?_
         rintro e w1 ⟨rfl,hb1⟩
         obtain ⟨p1,rfl⟩:=gw_of_below hb1
         clear hb1
         go_wp2_with fail
         refine (HJP.out _ (bl)).mono ?_
         rintro e w2 ⟨rfl,hb2⟩
         obtain ⟨p2,rfl⟩:=gw_of_below hb2
         clear hb2
         go_wp2_with fail
         go_ret
         exact ⟨rfl,bl⟩
       | cons x t =>
         obtain ⟨_,_,hv,_,hh⟩:=HR.out.op
         cases hv
         obtain ⟨g,o,rfl,hg,hh⟩:=hh (by simp)
         obtain ⟨k0,k1,k2⟩:=hh 0 x rfl
         simp only [Nat.zero_mul,Nat.add_zero] at k0
         have hi1:(0:Int)<((x::t).length:Int):=by simp only [List.length_cons]; omega
         have hcc:((x::t).length:Int)≤(c:Int):=by omega
         have hxx:(if m=[76,68]∧(x::t).head?.map (·.1)=some 3 then (2:Nat) else 1)=if x.1=3 then 2 else 1:=by simp [h3]
         rw [hxx]
         obtain ⟨n,hn⟩:∃ n,(x::t).length=n:=⟨_,rfl⟩
         rw [hn] at hi1 hcc hc ⊢
         have HM:=Hh h3
         clear hh HR k1 k2 hxx h3 hn
         obtain ⟨x0,x1,x2⟩:=x
         dsimp only at k0 ⊢
         by_cases hx:x0=3
         · subst hx
           rw [if_pos rfl]
           go_enter Tryz.func170,Tryz.ntmps170
           go_wp2_with fail
           refine (HBIT.out _ (bl)).mono ?_
           rintro e w1 ⟨rfl,hb1⟩
           have hx1:=box_kept hb1
           have hbw1:Below w.heap.size w w1:=below_of_alloc hb1
           obtain ⟨z0,z1,_,_⟩:=cells2 hx1
           clear hb1
           go_wp2_with fail
           refine (HJP.out _ hbw1).mono ?_
           rintro e w2 ⟨rfl,hb2⟩
           obtain ⟨z0',z1',_,_⟩:=cells2 (blk_below hx1 hb2 (blk_lt hx1))
           have HB2:=Hh (hbw1.trans (hb2.mono hbw1.size))
           have kz:w2.cell? ⟨g,o,none⟩=some (.int .i64 _):=(HB2.out.cell (p:=⟨g,o,none⟩) hg).trans k0
           clear hb2 z0 z1 hx1 hbw1 k0
           go_wp2_with fail
           go_ret
           exact ⟨rfl,HB2.out⟩
         · rw [if_neg hx]
           have hx3:(x0 == 3)=false:=by simpa using hx
           go_enter Tryz.func170,Tryz.ntmps170
           go_wp2_with fail
           refine (HBIT.out _ (bl)).mono ?_
           rintro e w1 ⟨rfl,hb1⟩
           have hx1:=box_kept hb1
           have hbw1:Below w.heap.size w w1:=below_of_alloc hb1
           obtain ⟨z0,z1,_,_⟩:=cells2 hx1
           clear hb1
           go_wp2_with fail
           refine (HJP.out _ hbw1).mono ?_
           rintro e w2 ⟨rfl,hb2⟩
           obtain ⟨z0',z1',_,_⟩:=cells2 (blk_below hx1 hb2 (blk_lt hx1))
           have HB2:=Hh (hbw1.trans (hb2.mono hbw1.size))
           have kz:w2.cell? ⟨g,o,none⟩=some (.int .i64 _):=(HB2.out.cell (p:=⟨g,o,none⟩) hg).trans k0
           clear hb2 z0 z1 hx1 hbw1 k0
           go_wp2_with fail
           go_ret
           exact ⟨rfl,HB2.out⟩
     · rw [if_neg (fun h=>h3 h.1)]
       have hm2:(m == [76,68])=false:=by simpa using h3
       have HM:=Hh h3; clear h3
       go_enter Tryz.func170,Tryz.ntmps170
       go_wp2_with fail
       refine (HBIT.out _ (bl)).mono ?_
       rintro e w1 ⟨rfl,hb1⟩
       obtain ⟨p1,rfl⟩:=gw_of_below hb1
       clear hb1
       go_wp2_with fail
       refine (HJP.out _ (bl)).mono ?_
       rintro e w2 ⟨rfl,hb2⟩
       obtain ⟨p2,rfl⟩:=gw_of_below hb2
       clear hb2
       go_wp2_with fail
       go_ret
       exact ⟨rfl,bl⟩
theorem width_three (i:Ins2):widthP i=0∨widthP i=1∨widthP i=2:=by
 unfold widthP
 split
 · exact .inl rfl
 · split
   · exact .inr (.inr rfl)
   · exact .inr (.inl rfl)
def posF (s h:Int) (o:Op3):Op3:=if o.1=6∧o.2.2<0∧h≤o.2.2 then (o.1,o.2.1,o.2.2+s) else o
theorem posP_0:posP 0=posF 1 0:=by
 funext o
 unfold posP posF
 rw [if_neg (by rintro ⟨_,_,h | h⟩<;>exact absurd h.1 (by decide)),if_neg (by rintro ⟨_,h1,h2⟩; omega)]
theorem posP_1:posP 1=posF 256 (-128):=by
 funext o
 unfold posP posF
 by_cases h:o.1=6∧o.2.2<0∧-128≤o.2.2
 · rw [if_pos ⟨h.1,h.2.1,.inl ⟨rfl,h.2.2⟩⟩,if_pos h]; rfl
 · rw [if_neg (by rintro ⟨h1,h2,h3 | h3⟩; exact h ⟨h1,h2,h3.2⟩; exact absurd h3.1 (by decide)),if_neg h]
theorem posP_2:posP 2=posF 65536 (-32768):=by
 funext o
 unfold posP posF
 by_cases h:o.1=6∧o.2.2<0∧-32768≤o.2.2
 · rw [if_pos ⟨h.1,h.2.1,.inr ⟨rfl,h.2.2⟩⟩,if_pos h]; rfl
 · rw [if_neg (by rintro ⟨h1,h2,h3 | h3⟩; exact absurd h3.1 (by decide); exact h ⟨h1,h2,h3.2⟩),if_neg h]
theorem WrAt.rowKb {w w':World} {b N:Nat} {m:List UInt8} {v:Value} {l l':List Op3} (h:WrAt w b N m v l) (hb:w'.heap[b]? = w.heap[b]?) (hr:WRow w' N v l'.length (opc l')):WrAt w' b N m v l':=⟨hb.trans h.blk,hr,h.ne⟩
set_option maxRecDepth 100000 in
set_option maxHeartbeats 4000000 in
theorem nums_0 (m:List UInt8) (v:Value) (l:List Op3) (b N:Nat) (w:World) (hT:TabsA w) (hW:WrAt w b N m v l) (hN:N≤b) (hNw:N≤w.heap.size) (hl:l.length≤1000) (hk:widthP (m,l)=0) :
 Calls Tryz.prog 93 #[.pointer (some ⟨b,0,none⟩)] w fun e w'=>(∃ u,e=.returned u)∧WrAt w' b N m v (l.map (posF 1 (0)))∧Below N w w':=by
 have hwd:=fun W (hb:Below w.heap.size w W)=>width_any m v l W (hT.below hb) (hW.row.row.below hb) hl
 rw [hk] at hwd
 have HWD:=Hh hwd; clear hwd hk
 have HW:=Hh hW
 have HNN:=Hh hN; have HNW:=Hh hNw
 obtain ⟨t0,t1,s0,s1⟩:=cells2 hW.blk
 have hbl:=blk_lt hW.blk
 obtain ⟨a,c,rfl,hcc,_⟩:=WRow.op hW.row
 clear hW hT hN hNw
 go_enter Tryz.func93,Tryz.ntmps93
 go_wp2_with fail
 (with_reducible refine (HWD.out _ (Below.refl _ _)).mono ?_)
 rintro e w1 ⟨rfl,hb1⟩
 have HW1:=Hh (HW.out.below hb1)
 have HB1:=Hh (hb1.mono HNW.out)
 clear t0 t1 s0 s1 hb1
 obtain ⟨t0,t1,s0,s1⟩:=cells2 HW1.out.blk
 have hbl1:=blk_lt HW1.out.blk
 go_wp2_with fail
 go_loopw [18] (fun i wr=>∃ j:Nat,j≤l.length∧i=.int .i64 j∧Hid (WrAt wr b N m (.slice a l.length c) (lkL (posF 1 (0)) l j))∧Hid (Below N w wr)) (fun i _=>l.length - (intOf i).toNat)
 case atStart=>exact ⟨0,Nat.zero_le _,rfl,Hh (by unfold lkL; simpa using HW1.out),HB1⟩
 case round =>
  obtain ⟨j,hj,rfl,HW2,HB2⟩:=hrel
  by_cases hlt:j<l.length
  · obtain ⟨x,hx⟩:∃ x,l[j]? = some x:=⟨_,List.getElem?_eq_getElem hlt⟩
    have hrow:=HW2.out.row
    obtain ⟨_,_,hv,_,hh⟩:=WRow.op hrow
    have hlen:=lkL_len (posF 1 (0)) l j
    rw [hlen] at hv
    cases hv
    obtain ⟨g,o,rfl,hg0,hg1,hh⟩:=hh (by intro e; rw [e] at hlen; simp at hlen; omega)
    obtain ⟨k0,k1,k2,f0,f1,f2⟩:=hh j x (lkL_at hx)
    obtain ⟨t0,t1,s0,s1⟩:=cells2 HW2.out.blk
    have hbl2:=blk_lt HW2.out.blk
    have HX:=Hh hx
    have hi0:(0:Int)≤(j:Int):=by omega
    have hi1:(j:Int)<(l.length:Int):=by omega
    clear hh hrow hlen hx
    obtain ⟨x0,x1,x2⟩:=x
    dsimp only at k0 k1 k2
    by_cases h6:x0=6
    · by_cases hn:x2<0
      · by_cases hm:0≤x2
        · exact absurd hn (by omega)
        · have HFX:(posF 1 (0)) (x0,x1,x2)=(x0,x1,x2):=if_neg (fun q=>hm q.2.2)
          have HFX:=HFX
          subst h6
          go_wp2_with fail
          go_roundw
          case rel=>exact ⟨j+1,by omega,by go_num,Hh (by rw [←lkL_same HX.out HFX]; exact HW2.out.below (bl)),Hh (HB2.out.alloc (by have:=HB2.out.size; have:=HNW.out; omega) _)⟩
          case measure=>simp [intOf]; omega
      · have HFX:(posF 1 (0)) (x0,x1,x2)=(x0,x1,x2):=if_neg (fun q=>hn q.2.1)
        subst h6
        go_wp2_with fail
        go_roundw
        case rel=>exact ⟨j+1,by omega,by go_num,Hh (by rw [←lkL_same HX.out HFX]; exact HW2.out.below (bl)),Hh (HB2.out.alloc (by have:=HB2.out.size; have:=HNW.out; omega) _)⟩
        case measure=>simp [intOf]; omega
    · have HFX:(posF 1 (0)) (x0,x1,x2)=(x0,x1,x2):=if_neg (fun q=>h6 q.1)
      have h6b:(x0 == 6)=false:=by simpa using h6
      go_wp2_with fail
      go_roundw
      case rel=>exact ⟨j+1,by omega,by go_num,Hh (by rw [←lkL_same HX.out HFX]; exact HW2.out.below (bl)),Hh (HB2.out.alloc (by have:=HB2.out.size; have:=HNW.out; omega) _)⟩
      case measure=>simp [intOf]; omega
  · obtain rfl:j=l.length:=by omega
    have hw3:=HW2.out
    rw [show lkL (posF 1 (0)) l l.length=l.map (posF 1 (0)) by unfold lkL; simp] at hw3
    have HW3:=Hh hw3; clear hw3
    obtain ⟨t0,t1,s0,s1⟩:=cells2 HW3.out.blk
    go_wp2_with fail
    go_end0
    exact ⟨⟨_,rfl⟩,HW3.out,HB2.out⟩
set_option maxRecDepth 100000 in
set_option maxHeartbeats 4000000 in
theorem nums_1 (m:List UInt8) (v:Value) (l:List Op3) (b N:Nat) (w:World) (hT:TabsA w) (hW:WrAt w b N m v l) (hN:N≤b) (hNw:N≤w.heap.size) (hl:l.length≤1000) (hk:widthP (m,l)=1) :
 Calls Tryz.prog 93 #[.pointer (some ⟨b,0,none⟩)] w fun e w'=>(∃ u,e=.returned u)∧WrAt w' b N m v (l.map (posF 256 (-128)))∧Below N w w':=by
 have hwd:=fun W (hb:Below w.heap.size w W)=>width_any m v l W (hT.below hb) (hW.row.row.below hb) hl
 rw [hk] at hwd
 have HWD:=Hh hwd; clear hwd hk
 have HW:=Hh hW
 have HNN:=Hh hN; have HNW:=Hh hNw
 obtain ⟨t0,t1,s0,s1⟩:=cells2 hW.blk
 have hbl:=blk_lt hW.blk
 obtain ⟨a,c,rfl,hcc,_⟩:=WRow.op hW.row
 clear hW hT hN hNw
 go_enter Tryz.func93,Tryz.ntmps93
 go_wp2_with fail
 (with_reducible refine (HWD.out _ (Below.refl _ _)).mono ?_)
 rintro e w1 ⟨rfl,hb1⟩
 have HW1:=Hh (HW.out.below hb1)
 have HB1:=Hh (hb1.mono HNW.out)
 clear t0 t1 s0 s1 hb1
 obtain ⟨t0,t1,s0,s1⟩:=cells2 HW1.out.blk
 have hbl1:=blk_lt HW1.out.blk
 go_wp2_with fail
 go_loopw [18] (fun i wr=>∃ j:Nat,j≤l.length∧i=.int .i64 j∧Hid (WrAt wr b N m (.slice a l.length c) (lkL (posF 256 (-128)) l j))∧Hid (Below N w wr)) (fun i _=>l.length - (intOf i).toNat)
 case atStart=>exact ⟨0,Nat.zero_le _,rfl,Hh (by unfold lkL; simpa using HW1.out),HB1⟩
 case round =>
  obtain ⟨j,hj,rfl,HW2,HB2⟩:=hrel
  by_cases hlt:j<l.length
  · obtain ⟨x,hx⟩:∃ x,l[j]? = some x:=⟨_,List.getElem?_eq_getElem hlt⟩
    have hrow:=HW2.out.row
    obtain ⟨_,_,hv,_,hh⟩:=WRow.op hrow
    have hlen:=lkL_len (posF 256 (-128)) l j
    rw [hlen] at hv
    cases hv
    obtain ⟨g,o,rfl,hg0,hg1,hh⟩:=hh (by intro e; rw [e] at hlen; simp at hlen; omega)
    obtain ⟨k0,k1,k2,f0,f1,f2⟩:=hh j x (lkL_at hx)
    obtain ⟨t0,t1,s0,s1⟩:=cells2 HW2.out.blk
    have hbl2:=blk_lt HW2.out.blk
    have HX:=Hh hx
    have hi0:(0:Int)≤(j:Int):=by omega
    have hi1:(j:Int)<(l.length:Int):=by omega
    clear hh hrow hlen hx
    obtain ⟨x0,x1,x2⟩:=x
    dsimp only at k0 k1 k2
    by_cases h6:x0=6
    · by_cases hn:x2<0
      · by_cases hm:-128≤x2
        · subst h6
          have hfx:(posF 256 (-128)) (6,x1,x2)=(6,x1,x2+256):=if_pos ⟨rfl,hn,hm⟩
          have hset:=lkL_set HX.out hfx
          have hwr:∀ X:World,Below wr.heap.size wr X→WrAt (X.setCell ⟨g,o+j * 3+2,none⟩ (.int .i64 (x2+256))) b N m (.slice (some ⟨g,o,none⟩) l.length c) (lkL (posF 256 (-128)) l (j+1)):=fun X hb=>by
           have h1:=HW2.out.below hb
           have hr:=h1.row
           have hlen:=lkL_len (posF 256 (-128)) l j
           rw [hlen] at hr
           have hr2:WRow X N (.slice (some ⟨g,o,none⟩) (lkL (posF 256 (-128)) l j).length c) (lkL (posF 256 (-128)) l j).length (opc (lkL (posF 256 (-128)) l j)):=by rw [hlen]; exact hr
           have hs:=WRow.setN (m:=x2+256) hr2 (lkL_at HX.out)
           rw [hset,hlen] at hs
           exact h1.rowKb (blk_other h1.blk (fun e=>h1.ne (by rw [e]; rfl)) |>.trans h1.blk.symm) (by rw [lkL_len]; exact hs)
          have HWR:=Hh hwr
          clear hwr hset hfx
          go_wp2_with fail
          go_roundw
          case rel=>exact ⟨j+1,by omega,by go_num,Hh (by first | exact HWR.out _ (bl) | exact (HWR.out wr (Below.refl _ _)).below ((Below.refl _ _).alloc (Nat.le_refl _) _)),Hh ((HB2.out.setCell (p:=⟨g,o+j * 3+2,none⟩) hg0 _).alloc (by rw [setCell_size]; have:=HB2.out.size; have:=HNW.out; omega) _)⟩
          case measure=>simp [intOf]; omega
        · have HFX:(posF 256 (-128)) (x0,x1,x2)=(x0,x1,x2):=if_neg (fun q=>hm q.2.2)
          have HFX:=HFX
          subst h6
          go_wp2_with fail
          go_roundw
          case rel=>exact ⟨j+1,by omega,by go_num,Hh (by rw [←lkL_same HX.out HFX]; exact HW2.out.below (bl)),Hh (HB2.out.alloc (by have:=HB2.out.size; have:=HNW.out; omega) _)⟩
          case measure=>simp [intOf]; omega
      · have HFX:(posF 256 (-128)) (x0,x1,x2)=(x0,x1,x2):=if_neg (fun q=>hn q.2.1)
        subst h6
        go_wp2_with fail
        go_roundw
        case rel=>exact ⟨j+1,by omega,by go_num,Hh (by rw [←lkL_same HX.out HFX]; exact HW2.out.below (bl)),Hh (HB2.out.alloc (by have:=HB2.out.size; have:=HNW.out; omega) _)⟩
        case measure=>simp [intOf]; omega
    · have HFX:(posF 256 (-128)) (x0,x1,x2)=(x0,x1,x2):=if_neg (fun q=>h6 q.1)
      have h6b:(x0 == 6)=false:=by simpa using h6
      go_wp2_with fail
      go_roundw
      case rel=>exact ⟨j+1,by omega,by go_num,Hh (by rw [←lkL_same HX.out HFX]; exact HW2.out.below (bl)),Hh (HB2.out.alloc (by have:=HB2.out.size; have:=HNW.out; omega) _)⟩
      case measure=>simp [intOf]; omega
  · obtain rfl:j=l.length:=by omega
    have hw3:=HW2.out
    rw [show lkL (posF 256 (-128)) l l.length=l.map (posF 256 (-128)) by unfold lkL; simp] at hw3
    have HW3:=Hh hw3; clear hw3
    obtain ⟨t0,t1,s0,s1⟩:=cells2 HW3.out.blk
    go_wp2_with fail
    go_end0
    exact ⟨⟨_,rfl⟩,HW3.out,HB2.out⟩
set_option maxRecDepth 100000 in
set_option maxHeartbeats 4000000 in
theorem nums_2 (m:List UInt8) (v:Value) (l:List Op3) (b N:Nat) (w:World) (hT:TabsA w) (hW:WrAt w b N m v l) (hN:N≤b) (hNw:N≤w.heap.size) (hl:l.length≤1000) (hk:widthP (m,l)=2) :
 Calls Tryz.prog 93 #[.pointer (some ⟨b,0,none⟩)] w fun e w'=>(∃ u,e=.returned u)∧WrAt w' b N m v (l.map (posF 65536 (-32768)))∧Below N w w':=by
 have hwd:=fun W (hb:Below w.heap.size w W)=>width_any m v l W (hT.below hb) (hW.row.row.below hb) hl
 rw [hk] at hwd
 have HWD:=Hh hwd; clear hwd hk
 have HW:=Hh hW
 have HNN:=Hh hN; have HNW:=Hh hNw
 obtain ⟨t0,t1,s0,s1⟩:=cells2 hW.blk
 have hbl:=blk_lt hW.blk
 obtain ⟨a,c,rfl,hcc,_⟩:=WRow.op hW.row
 clear hW hT hN hNw
 go_enter Tryz.func93,Tryz.ntmps93
 go_wp2_with fail
 (with_reducible refine (HWD.out _ (Below.refl _ _)).mono ?_)
 rintro e w1 ⟨rfl,hb1⟩
 have HW1:=Hh (HW.out.below hb1)
 have HB1:=Hh (hb1.mono HNW.out)
 clear t0 t1 s0 s1 hb1
 obtain ⟨t0,t1,s0,s1⟩:=cells2 HW1.out.blk
 have hbl1:=blk_lt HW1.out.blk
 go_wp2_with fail
 go_loopw [18] (fun i wr=>∃ j:Nat,j≤l.length∧i=.int .i64 j∧Hid (WrAt wr b N m (.slice a l.length c) (lkL (posF 65536 (-32768)) l j))∧Hid (Below N w wr)) (fun i _=>l.length - (intOf i).toNat)
 case atStart=>exact ⟨0,Nat.zero_le _,rfl,Hh (by unfold lkL; simpa using HW1.out),HB1⟩
 case round =>
  obtain ⟨j,hj,rfl,HW2,HB2⟩:=hrel
  by_cases hlt:j<l.length
  · obtain ⟨x,hx⟩:∃ x,l[j]? = some x:=⟨_,List.getElem?_eq_getElem hlt⟩
    have hrow:=HW2.out.row
    obtain ⟨_,_,hv,_,hh⟩:=WRow.op hrow
    have hlen:=lkL_len (posF 65536 (-32768)) l j
    rw [hlen] at hv
    cases hv
    obtain ⟨g,o,rfl,hg0,hg1,hh⟩:=hh (by intro e; rw [e] at hlen; simp at hlen; omega)
    obtain ⟨k0,k1,k2,f0,f1,f2⟩:=hh j x (lkL_at hx)
    obtain ⟨t0,t1,s0,s1⟩:=cells2 HW2.out.blk
    have hbl2:=blk_lt HW2.out.blk
    have HX:=Hh hx
    have hi0:(0:Int)≤(j:Int):=by omega
    have hi1:(j:Int)<(l.length:Int):=by omega
    clear hh hrow hlen hx
    obtain ⟨x0,x1,x2⟩:=x
    dsimp only at k0 k1 k2
    by_cases h6:x0=6
    · by_cases hn:x2<0
      · by_cases hm:-32768≤x2
        · subst h6
          have hfx:(posF 65536 (-32768)) (6,x1,x2)=(6,x1,x2+65536):=if_pos ⟨rfl,hn,hm⟩
          have hset:=lkL_set HX.out hfx
          have hwr:∀ X:World,Below wr.heap.size wr X→WrAt (X.setCell ⟨g,o+j * 3+2,none⟩ (.int .i64 (x2+65536))) b N m (.slice (some ⟨g,o,none⟩) l.length c) (lkL (posF 65536 (-32768)) l (j+1)):=fun X hb=>by
           have h1:=HW2.out.below hb
           have hr:=h1.row
           have hlen:=lkL_len (posF 65536 (-32768)) l j
           rw [hlen] at hr
           have hr2:WRow X N (.slice (some ⟨g,o,none⟩) (lkL (posF 65536 (-32768)) l j).length c) (lkL (posF 65536 (-32768)) l j).length (opc (lkL (posF 65536 (-32768)) l j)):=by rw [hlen]; exact hr
           have hs:=WRow.setN (m:=x2+65536) hr2 (lkL_at HX.out)
           rw [hset,hlen] at hs
           exact h1.rowKb (blk_other h1.blk (fun e=>h1.ne (by rw [e]; rfl)) |>.trans h1.blk.symm) (by rw [lkL_len]; exact hs)
          have HWR:=Hh hwr
          clear hwr hset hfx
          go_wp2_with fail
          go_roundw
          case rel=>exact ⟨j+1,by omega,by go_num,Hh (by first | exact HWR.out _ (bl) | exact (HWR.out wr (Below.refl _ _)).below ((Below.refl _ _).alloc (Nat.le_refl _) _)),Hh ((HB2.out.setCell (p:=⟨g,o+j * 3+2,none⟩) hg0 _).alloc (by rw [setCell_size]; have:=HB2.out.size; have:=HNW.out; omega) _)⟩
          case measure=>simp [intOf]; omega
        · have HFX:(posF 65536 (-32768)) (x0,x1,x2)=(x0,x1,x2):=if_neg (fun q=>hm q.2.2)
          have HFX:=HFX
          subst h6
          go_wp2_with fail
          go_roundw
          case rel=>exact ⟨j+1,by omega,by go_num,Hh (by rw [←lkL_same HX.out HFX]; exact HW2.out.below (bl)),Hh (HB2.out.alloc (by have:=HB2.out.size; have:=HNW.out; omega) _)⟩
          case measure=>simp [intOf]; omega
      · have HFX:(posF 65536 (-32768)) (x0,x1,x2)=(x0,x1,x2):=if_neg (fun q=>hn q.2.1)
        subst h6
        go_wp2_with fail
        go_roundw
        case rel=>exact ⟨j+1,by omega,by go_num,Hh (by rw [←lkL_same HX.out HFX]; exact HW2.out.below (bl)),Hh (HB2.out.alloc (by have:=HB2.out.size; have:=HNW.out; omega) _)⟩
        case measure=>simp [intOf]; omega
    · have HFX:(posF 65536 (-32768)) (x0,x1,x2)=(x0,x1,x2):=if_neg (fun q=>h6 q.1)
      have h6b:(x0 == 6)=false:=by simpa using h6
      go_wp2_with fail
      go_roundw
      case rel=>exact ⟨j+1,by omega,by go_num,Hh (by rw [←lkL_same HX.out HFX]; exact HW2.out.below (bl)),Hh (HB2.out.alloc (by have:=HB2.out.size; have:=HNW.out; omega) _)⟩
      case measure=>simp [intOf]; omega
  · obtain rfl:j=l.length:=by omega
    have hw3:=HW2.out
    rw [show lkL (posF 65536 (-32768)) l l.length=l.map (posF 65536 (-32768)) by unfold lkL; simp] at hw3
    have HW3:=Hh hw3; clear hw3
    obtain ⟨t0,t1,s0,s1⟩:=cells2 HW3.out.blk
    go_wp2_with fail
    go_end0
    exact ⟨⟨_,rfl⟩,HW3.out,HB2.out⟩
theorem nums_any (m:List UInt8) (v:Value) (l:List Op3) (b N:Nat) (w:World) (hT:TabsA w) (hW:WrAt w b N m v l) (hN:N≤b) (hNw:N≤w.heap.size) (hl:l.length≤1000) :
 Calls Tryz.prog 93 #[.pointer (some ⟨b,0,none⟩)] w fun e w'=>(∃ u,e=.returned u)∧WrAt w' b N m v (l.map (posP (widthP (m,l))))∧Below N w w':=by
 rcases width_three (m,l) with h | h | h
 · rw [h,posP_0]; exact nums_0 m v l b N w hT hW hN hNw hl h
 · rw [h,posP_1]; exact nums_1 m v l b N w hT hW hN hNw hl h
 · rw [h,posP_2]; exact nums_2 m v l b N w hT hW hN hNw hl h
theorem exch_any (m:List UInt8) (v:Value) (l:List Op3) (b N:Nat) (w:World) (hW:WrAt w b N m v l) (hN:N≤b) (hNw:N≤w.heap.size) (hl:l.length≤1000) :
 Calls Tryz.prog 92 #[.pointer (some ⟨b,0,none⟩)] w fun e w'=>(∃ u,e=.returned u)∧(∃ v',WrAt w' b N m v' (exP m l))∧Below N w w':=by
 by_cases hm:m=[69,88]
 · subst hm
   have h:=exch_ex v l b N w hW hN hNw hl _ rfl
   have e:exP [69,88] l=if decide (l=[(3,2,0),(3,1,0)])=true then [(3,1,0),(3,2,0)] else l:=by
    unfold exP
    by_cases h:l=[(3,2,0),(3,1,0)]<;>simp [h]
   rw [e]
   exact h
 · have e:exP m l=l:=by unfold exP; rw [if_neg (fun h=>hm h.1)]
   rw [e]
   exact exch_no m v l b N w hW hNw hm
theorem run_index3 (a0 a1 a2:Value) (w:World) :
 (Instr.index 176 (.agg #[a0,a1,a2]) (.int .i64 0)).run Tryz.prog w=.ok a0 w∧(Instr.index 176 (.agg #[a0,a1,a2]) (.int .i64 1)).run Tryz.prog w=.ok a1 w ∧
 (Instr.index 176 (.agg #[a0,a1,a2]) (.int .i64 2)).run Tryz.prog w=.ok a2 w:=by
 refine ⟨?_,?_,?_⟩<;>(change _=_; kernel_rfl)
set_option maxRecDepth 100000 in
set_option maxHeartbeats 4000000 in
theorem of_any (m:List UInt8) (v:Value) (l:List Op3) (w:World) (hT:TabsA w) (hr:Row w v l.length (opc l)) (hl:l.length≤900) :
 Calls Tryz.prog 39 #[insV m v] w fun e w'=>∃ v',e=.returned (insV m v')∧WRow w' w.heap.size v' (canonP (m,l)).2.length (opc (canonP (m,l)).2)∧Below w.heap.size w w':=by
 have hcl:=fun X (hb:Below w.heap.size w X)=>clone_any v l X (hr.below hb) (by omega)
 have hA:(accP (m,l)).length≤l.length+1:=accP_len (m,l)
 have hE:(exP m (accP (m,l))).length=(accP (m,l)).length:=exP_len m _
 have hwid:=width_steps (m,l)
 have hacc:=fun X v' b (hb:Below w.heap.size w X) hW=>acc_any m v' l b (w.heap.size+1+1) X (hT.below hb) hW
 have hexc:=fun X v' b hW=>exch_any m v' (accP (m,l)) b (w.heap.size+1+1) X hW
 have hnum:=fun X v' b (hb:Below w.heap.size w X) hW=>nums_any m v' (exP m (accP (m,l))) b (w.heap.size+1+1) X (hT.below hb) hW
 have hcp:(canonP (m,l)).2=(exP m (accP (m,l))).map (posP (widthP (m,exP m (accP (m,l))))):=by
  unfold canonP
  dsimp only at hwid ⊢
  rw [hwid]
 rw [hcp]
 obtain ⟨L1,h1⟩:∃ L1,accP (m,l)=L1:=⟨_,rfl⟩
 rw [h1] at hA hE hacc hexc hnum ⊢
 obtain ⟨L2,h2⟩:∃ L2,exP m L1=L2:=⟨_,rfl⟩
 rw [h2] at hE hexc hnum ⊢
 obtain ⟨L3,h3⟩:∃ L3,L2.map (posP (widthP (m,L2)))=L3:=⟨_,rfl⟩
 rw [h3] at hnum ⊢
 clear h1 h2 h3 hwid hcp
 have HCL:=Hh hcl; clear hcl
 have HACC:=Hh hacc; clear hacc
 have HEXC:=Hh hexc; clear hexc
 have HNUM:=Hh hnum; clear hnum
 have HL:=Hh (And.intro hA hE); clear hA hE
 clear hT
 obtain ⟨a,c,rfl,_,_⟩:=hr
 go_enter Tryz.func39,Tryz.ntmps39
 go_wp2_with fail
 obtain ⟨W,hW⟩:∃ W,((w.alloc (.cells #[.string ⟨m.toArray⟩,.slice a l.length c] 24)).alloc (.cells #[.string ⟨#[]⟩,.slice none 0 0] 24))=W:=⟨_,rfl⟩
 have hbW:Below w.heap.size w W:=by rw [←hW]; exact ((Below.refl _ _).alloc (Nat.le_refl _) _).alloc (by simp) _
 have hsz:W.heap.size=w.heap.size+1+1:=by rw [←hW]; simp
 have h0:W.heap[w.heap.size]? = some (.cells #[.string ⟨m.toArray⟩,.slice a l.length c] 24 (0,0)):=by rw [←hW]; exact blk_alloc (blk_new _ _)
 have h1:W.heap[w.heap.size+1]? = some (.cells #[.string ⟨#[]⟩,.slice none 0 0] 24 (0,0)):=by rw [←hW]; have:=blk_new (w.alloc (.cells #[.string ⟨m.toArray⟩,.slice a l.length c] 24)) (.cells #[.string ⟨#[]⟩,.slice none 0 0] 24); rwa [World.size_alloc] at this
 rw [hW]
 clear hW
 obtain ⟨t0,t1,_,_⟩:=cells2 h0
 have hl0:w.heap.size<W.heap.size:=by omega
 have HSZ:=Hh hsz; have H0:=Hh h0; have H1:=Hh h1; have HBW:=Hh hbW
 have hK:∀ X,Below W.heap.size W X→X.cell? ⟨w.heap.size,0,none⟩=some (.string ⟨m.toArray⟩)∧X.cell? ⟨w.heap.size,1,none⟩=some (.slice a l.length c):=fun X hb=>⟨(hb.cell (p:=⟨w.heap.size,0,none⟩) hl0).trans t0,(hb.cell (p:=⟨w.heap.size,1,none⟩) hl0).trans t1⟩
 have HK:=Hh hK
 have K1:=hK W (Below.refl _ _)
 clear hsz h0 h1 hbW hK
 have hd:Below W.heap.size W W.drew:=bl
 have hd2:Below w.heap.size w W.drew:=HBW.out.trans (hd.mono HBW.out.size)
 go_region_held3 (fun X=>X.cell? ⟨w.heap.size,0,none⟩=some (.string ⟨m.toArray⟩)∧X.cell? ⟨w.heap.size,1,none⟩=some (.slice a l.length c)) (first | exact K1 | exact K4 | exact K5) (first | ((with_reducible refine (HCL.out _ hd2).mono ?_); rintro e w4 ⟨v4,rfl,hown4,hb4⟩; have hbw4:Below W.heap.size W w4:=hd.trans hb4; have K4:=HK.out w4 hbw4; obtain ⟨a4,c4,rfl⟩:=owns_slice hown4; have K5:=HK.out (w4.alloc (.cells #[.string ⟨m.toArray⟩,.slice a4 l.length c4] 174)) (hbw4.alloc hbw4.size _)))
 obtain ⟨W5,hW5⟩:∃ W5,(w4.alloc (.cells #[.string ⟨m.toArray⟩,.slice a4 l.length c4] 174))=W5:=⟨_,rfl⟩
 have hb45:Below w4.heap.size w4 W5:=by rw [←hW5]; exact (Below.refl _ _).alloc (Nat.le_refl _) _
 have hblk5:W5.heap[w4.heap.size]? = some (.cells #[.string ⟨m.toArray⟩,.slice a4 l.length c4] 174 (0,0)):=by rw [←hW5]; exact blk_new _ _
 rw [hW5]
 clear hW5 K1 K4 K5
 have hs4:w.heap.size+1+1≤w4.heap.size:=by have:=hbw4.size; rw [HSZ.out] at this; exact this
 have hbw5:Below W.heap.size W W5:=hbw4.trans (hb45.mono hbw4.size)
 have hbw:Below w.heap.size w W5:=HBW.out.trans (hbw5.mono HBW.out.size)
 have hwr5:WrAt W5 w4.heap.size (w.heap.size+1+1) m (.slice a4 l.length c4) l:=⟨hblk5,((WRow.of_owns hown4).mono (by show w.heap.size+1+1≤W.heap.size; rw [HSZ.out]; exact Nat.le_refl _)).below hb45,fun e=>by have:=(hown4.lt _ e).2; omega⟩
 have hres5:=blk_below H1.out hbw5 (by rw [HSZ.out]; omega)
 have hcall5:=HACC.out W5 _ _ hbw hwr5 (by omega) (by have:=hb45.size; omega)
 obtain ⟨b,hb⟩:∃ b,w4.heap.size=b:=⟨_,rfl⟩
 rw [hb] at hs4 hwr5 hcall5 ⊢
 have HC5:=Hh hcall5; have HR5:=Hh hres5; have HBW5:=Hh hbw; have HS4:=Hh hs4
 clear hb45 hblk5 hbw5 hbw hwr5 hres5 hcall5 hb hd hd2 hb4 hbw4 hown4 t0 t1 hl0
 go_wp2_with fail
 go_loopw [15] (fun i wr=>∃ j:Nat,j≤3∧i=.int .i64 j∧Hid (Below w.heap.size w wr)∧Hid (wr.heap[w.heap.size+1]? = some (.cells #[.string ⟨#[]⟩,.slice none 0 0] 24 (0,0)))∧Hid ((j=0∧wr=W5)∨(j=1∧∃ v1,WrAt wr b (w.heap.size+1+1) m v1 L1)∨(j=2∧∃ v1,WrAt wr b (w.heap.size+1+1) m v1 L2)∨(j=3∧∃ v1,WrAt wr b (w.heap.size+1+1) m v1 L3))) (fun i _=>3 - (intOf i).toNat)
 case atStart=>exact ⟨0,by omega,rfl,HBW5,HR5,Hh (.inl ⟨rfl,rfl⟩)⟩
 case round =>
  obtain ⟨j,hj,rfl,HB,HR,HJ⟩:=hrel
  rcases HJ.out with ⟨rfl,rfl⟩ | ⟨rfl,v1,hwr⟩ | ⟨rfl,v1,hwr⟩ | ⟨rfl,v1,hwr⟩
  · obtain ⟨hix,_,_⟩:=run_index3 (.func (.func 91) #[] #[]) (.func (.func 92) #[] #[]) (.func (.func 93) #[] #[]) wr
    go_wp2_with fail
    (with_reducible refine HC5.out.mono ?_)
    rintro e w6 ⟨⟨u,rfl⟩,⟨v6,hwr6⟩,hb6⟩
    have HR6:=Hh (blk_below HR.out hb6 (by have:=HS4.out; omega))
    have HB6:=Hh (HB.out.trans (hb6.mono (by omega)))
    have HW6:=Hh hwr6
    clear hwr6 hb6
    go_wp2_with fail
    go_roundw
    case rel=>exact ⟨1,by omega,by go_num,HB6,HR6,Hh (.inr (.inl ⟨rfl,v6,HW6.out⟩))⟩
    case measure=>simp [intOf]
  · obtain ⟨_,hix,_⟩:=run_index3 (.func (.func 91) #[] #[]) (.func (.func 92) #[] #[]) (.func (.func 93) #[] #[]) wr
    have hcall:=HEXC.out wr v1 b hwr (by have:=HS4.out; omega) (by have:=blk_lt HR.out; omega) (by have:=HL.out; omega)
    have HC:=Hh hcall; clear hcall hwr
    go_wp2_with fail
    (with_reducible refine HC.out.mono ?_)
    rintro e w6 ⟨⟨u,rfl⟩,⟨v6,hwr6⟩,hb6⟩
    have HR6:=Hh (blk_below HR.out hb6 (by have:=HS4.out; omega))
    have HB6:=Hh (HB.out.trans (hb6.mono (by omega)))
    have HW6:=Hh hwr6
    clear hwr6 hb6
    go_wp2_with fail
    go_roundw
    case rel=>exact ⟨2,by omega,by go_num,HB6,HR6,Hh (.inr (.inr (.inl ⟨rfl,v6,HW6.out⟩)))⟩
    case measure=>simp [intOf]
  · obtain ⟨_,_,hix⟩:=run_index3 (.func (.func 91) #[] #[]) (.func (.func 92) #[] #[]) (.func (.func 93) #[] #[]) wr
    have hcall:=HNUM.out wr v1 b HB.out hwr (by have:=HS4.out; omega) (by have:=blk_lt HR.out; omega) (by have:=HL.out; omega)
    have HC:=Hh hcall; clear hcall hwr
    go_wp2_with fail
    (with_reducible refine HC.out.mono ?_)
    rintro e w6 ⟨⟨u,rfl⟩,hwr6,hb6⟩
    have HR6:=Hh (blk_below HR.out hb6 (by have:=HS4.out; omega))
    have HB6:=Hh (HB.out.trans (hb6.mono (by omega)))
    have HW6:=Hh hwr6
    clear hwr6 hb6
    go_wp2_with fail
    go_roundw
    case rel=>exact ⟨3,by omega,by go_num,HB6,HR6,Hh (.inr (.inr (.inr ⟨rfl,v1,HW6.out⟩)))⟩
    case measure=>simp [intOf]
  · obtain ⟨t0,t1,_,_⟩:=cells2 hwr.blk
    obtain ⟨r0,r1,q0,q1⟩:=cells2 HR.out
    have HWR:=Hh hwr
    have hne:¬ b=w.heap.size+1:=by have:=HS4.out; omega
    have hlb:=blk_lt hwr.blk
    obtain ⟨av,cv,hv,_,_⟩:=hwr.row.op
    subst hv
    clear hwr
    go_wp2_with fail
    have hb9:((wr.setCell ⟨w.heap.size+1,0,none⟩ (.string ⟨m.toArray⟩)).setCell ⟨w.heap.size+1,1,none⟩ (.slice av L3.length cv)).heap[w.heap.size+1]? = some (.cells #[.string ⟨m.toArray⟩,.slice av L3.length cv] 24 (0,0)):=blk_set (blk_set HR.out)
    obtain ⟨n0,n1,_,_⟩:=cells2 hb9
    refine bodyPost_ret (v:=insV m (.slice av L3.length cv)) (by simp [results,Tryz.results39,go_sem,n0,n1]) rfl ⟨_,rfl,?_,(HB.out.setCell (p:=⟨w.heap.size+1,0,none⟩) (by show w.heap.size≤w.heap.size+1; omega) _).setCell (p:=⟨w.heap.size+1,1,none⟩) (by show w.heap.size≤w.heap.size+1; omega) _⟩
    exact ((HWR.out.row.kb ((Kb.refl (w.heap.size+1) wr).setCell 0 _) (by omega)).kb ((Kb.refl (w.heap.size+1) _).setCell 1 _) (by omega)).mono (by omega)
end Go.Proofs.YtkldoojonnkfgaaGreatDoor
namespace Go.Proofs.YtkldoojonnkfgaaGreatDoor
open Go.RowKit Go.Sort Go.Shelf
attribute [local go_sem] Oper.semAt_some
def FindRes (i:Ins2) (w:World) (e:Ending) (w':World):Prop :=
 ∃ v,e=.returned (.tuple #[entV ((findI i).1.getD ent0) v,.int .i64 (findI i).2])∧Row w' v ((findI i).1.getD ent0).args.length (opc ((findI i).1.getD ent0).args)∧Below w.heap.size w w'
set_option maxRecDepth 100000 in
set_option maxHeartbeats 8000000 in
theorem find_bad (m:List UInt8) (v:Value) (l:List Op3) (w:World) (hT:TabsA w) (hr:Row w v l.length (opc l)) (hl:l.length≤1000) (k:Int) (hk:checkP (m,l)=k) (hne:k≠0) :
 Calls Tryz.prog 16 #[insV m v] w (FindRes (m,l) w):=by
 have hf:findI (m,l)=(none,k):=by unfold findI; rw [if_neg (by rw [hk]; exact hne),hk]
 unfold FindRes
 rw [hf]
 have hck:=fun X (hb:Below w.heap.size w X)=>checkI_any m v l X (hT.below hb) (hr.below hb) (by omega)
 rw [hk] at hck
 have HCK:=Hh hck; clear hck
 have hne1:(k != 0)=true:=bne_iff_ne.2 hne
 obtain ⟨a,c,rfl,_,_⟩:=hr
 clear hf hk hne
 show Calls Tryz.prog 16 #[insV m (.slice a l.length c)] w fun e w'=>∃ v,e=.returned (.tuple #[entV ent0 v,.int .i64 k])∧Row w' v ent0.args.length (opc ent0.args)∧Below w.heap.size w w'
 go_enter Tryz.func16,Tryz.ntmps16
 go_wp2_with fail
 have hbW:Below w.heap.size w (((w.alloc (.cells #[.string ⟨m.toArray⟩,.slice a l.length c] 24)).alloc (.cells #[.int .i64 0,.int .u8 0,.string ⟨#[]⟩,.slice none 0 0,.string ⟨#[]⟩,.bool false] 41)).alloc (.cells #[.int .i64 0] 29)):=bl
 (with_reducible refine (HCK.out _ hbW).mono ?_)
 rintro e w2 ⟨rfl,hb2⟩
 have h1:=blk_below (blk_alloc (o':=.cells #[.int .i64 0] 29) (blk_new (w.alloc (.cells #[.string ⟨m.toArray⟩,.slice a l.length c] 24)) (.cells #[.int .i64 0,.int .u8 0,.string ⟨#[]⟩,.slice none 0 0,.string ⟨#[]⟩,.bool false] 41))) hb2 (by simp)
 have h2:=blk_below (blk_new ((w.alloc (.cells #[.string ⟨m.toArray⟩,.slice a l.length c] 24)).alloc (.cells #[.int .i64 0,.int .u8 0,.string ⟨#[]⟩,.slice none 0 0,.string ⟨#[]⟩,.bool false] 41)) (.cells #[.int .i64 0] 29)) hb2 (by simp)
 simp only [World.size_alloc] at h1 h2
 obtain ⟨⟨k0,k1,k2,k3,k4,k5⟩,f0,f1,f2,f3,f4,f5⟩:=cells6 h1
 have r0:w2.cell? ⟨w.heap.size+1+1,0,none⟩=some (.int .i64 0):=by rw [blk_cell h2]; rfl
 have q0:w2.frozen? ⟨w.heap.size+1+1,0,none⟩=false:=blk_frozen h2 0
 have H1:=Hh h1; have H2:=Hh h2
 have HB2:=Hh (hbW.trans (hb2.mono hbW.size))
 clear hbW hb2 h1 h2
 go_wp2_with fail
 have hfin:∀ v0 v1 v2 v3 v4 v5 vk,((((((((w2.setCell ⟨w.heap.size+1,0,none⟩ v0).setCell ⟨w.heap.size+1,1,none⟩ v1).setCell ⟨w.heap.size+1,2,none⟩ v2).setCell ⟨w.heap.size+1,3,none⟩ v3).setCell ⟨w.heap.size+1,4,none⟩ v4).setCell ⟨w.heap.size+1,5,none⟩ v5).setCell ⟨w.heap.size+1+1,0,none⟩ vk)).heap[w.heap.size+1]? = some (.cells #[v0,v1,v2,v3,v4,v5] 41 (0,0))∧((((((((w2.setCell ⟨w.heap.size+1,0,none⟩ v0).setCell ⟨w.heap.size+1,1,none⟩ v1).setCell ⟨w.heap.size+1,2,none⟩ v2).setCell ⟨w.heap.size+1,3,none⟩ v3).setCell ⟨w.heap.size+1,4,none⟩ v4).setCell ⟨w.heap.size+1,5,none⟩ v5).setCell ⟨w.heap.size+1+1,0,none⟩ vk)).heap[w.heap.size+1+1]? = some (.cells #[vk] 29 (0,0)):=fun v0 v1 v2 v3 v4 v5 vk=>⟨blk_other (blk_set (blk_set (blk_set (blk_set (blk_set (blk_set H1.out)))))) (by omega),blk_set (blk_other (blk_other (blk_other (blk_other (blk_other (blk_other H2.out (by omega)) (by omega)) (by omega)) (by omega)) (by omega)) (by omega))⟩
 obtain ⟨g1,g2⟩:=hfin (.int .i64 0) (.int .u8 0) (.string ⟨#[]⟩) (.slice none 0 0) (.string ⟨#[]⟩) (.bool false) (.int .i64 k)
 obtain ⟨⟨n0,n1,n2,n3,n4,n5⟩,_⟩:=cells6 g1
 have n6:=blk_cell g2 0
 simp only [List.getElem?_toArray,List.getElem?_cons_zero] at n6
 have hb9:=HB2.out
 refine bodyPost_ret (v:=.tuple #[entV ent0 (.slice none 0 0),.int .i64 k]) (by simp [results,Tryz.results16,go_sem,n0,n1,n2,n3,n4,n5,n6,ent0]) rfl ⟨_,rfl,(WRow.nil _ 0).row,?_⟩
 with_reducible repeat (refine Below.setCell ?_ (by first | exact Nat.le_refl _ | exact Nat.le_succ _ | (show w.heap.size≤w.heap.size+1+1; omega)) _)
 exact hb9
theorem Row.setOther {W:World} {n k i:Nat} {v u:Value} {xs:List Value} (h:Row W v n xs) (hne:xs≠[]→v.ownBlock≠some k):Row (W.setCell ⟨k,i,none⟩ u) v n xs:=by
 obtain ⟨a,cap,hv,hn,h⟩:=h
 refine ⟨a,cap,hv,hn,fun hx=>?_⟩
 obtain ⟨g,o,rfl,hg,hc⟩:=h hx
 have hgk:g≠k:=fun e=>hne hx (by rw [hv,e]; rfl)
 exact ⟨g,o,rfl,by rw [setCell_size]; exact hg,fun j hj=>(World.cell?_of_block (a:=⟨g,o+j,none⟩) (Below.heap_setCell W ⟨k,i,none⟩ u g hgk)).trans (hc j hj)⟩
theorem Row.own_lt {w:World} {n:Nat} {v:Value} {xs:List Value} (h:Row w v n xs) (hx:xs≠[]):∃ g,v.ownBlock=some g∧g<w.heap.size:=by
 obtain ⟨a,cap,rfl,hn,h⟩:=h
 obtain ⟨g,o,rfl,hg,_⟩:=h hx
 exact ⟨g,rfl,hg⟩
structure FI (b0 b5:Nat) (m:List UInt8) (v:Value) (C:List Op3) (code:Int) (W:World):Prop where
 r1:W.heap[b0+1]? = some (.cells #[.int .i64 0,.int .u8 0,.string ⟨#[]⟩,.slice none 0 0,.string ⟨#[]⟩,.bool false] 41 (0,0))
 r2:W.heap[b0+1+1]? = some (.cells #[.int .i64 0] 29 (0,0))
 r5:W.heap[b5]? = some (.cells #[.string ⟨m.toArray⟩,v] 24 (0,0))
 r6:W.heap[b5+1]? = some (.cells #[.int .i64 code] 29 (0,0))
 row:Row W v C.length (opc C)
theorem FI.keep {b0 b5:Nat} {m:List UInt8} {v:Value} {C:List Op3} {code:Int} {W W':World} (h:FI b0 b5 m v C code W) (hk:KeepC 0 W W'):FI b0 b5 m v C code W' :=
 ⟨hk.2 _ _ (Nat.zero_le _) h.r1 rfl,hk.2 _ _ (Nat.zero_le _) h.r2 rfl,hk.2 _ _ (Nat.zero_le _) h.r5 rfl,hk.2 _ _ (Nat.zero_le _) h.r6 rfl,h.row.keepC hk⟩
structure FX (b0:Nat) (x:Ent × Value) (W:World):Prop where
 r1:W.heap[b0+1]? = some (.cells #[.int .i64 x.1.page,.int .u8 x.1.op,.string ⟨x.1.mn.toArray⟩,x.2,.string ⟨x.1.extra.toArray⟩,.bool x.1.alias] 41 (0,0))
 r2:W.heap[b0+1+1]? = some (.cells #[.int .i64 0] 29 (0,0))
 row:Row W x.2 x.1.args.length (opc x.1.args)
theorem FX.keep {b0:Nat} {x:Ent × Value} {W W':World} (h:FX b0 x W) (hk:KeepC 0 W W'):FX b0 x W' :=
 ⟨hk.2 _ _ (Nat.zero_le _) h.r1 rfl,hk.2 _ _ (Nat.zero_le _) h.r2 rfl,h.row.keepC hk⟩
set_option maxRecDepth 100000 in
set_option maxHeartbeats 1600000 in
theorem find_good (m:List UInt8) (v:Value) (l:List Op3) (w:World) (hT:TabsA w) (hr:Row w v l.length (opc l)) (hk:checkP (m,l)=0) :
 Calls Tryz.prog 16 #[insV m v] w (FindRes (m,l) w):=by
 have hf:findI (m,l)=entryP (canonP (m,l)):=by unfold findI; rw [if_pos hk]
 unfold FindRes
 rw [hf]
 obtain ⟨hmo,hl3,_⟩:=check_parts hk
 dsimp only at hmo hl3
 obtain ⟨hup,hmne,hml⟩:=ops_up hmo
 have hck:=fun X (hb:Below w.heap.size w X)=>checkI_any m v l X (hT.below hb) (hr.below hb) (by omega)
 rw [hk] at hck
 have hof:=fun X (hb:Below w.heap.size w X)=>of_any m v l X (hT.below hb) (hr.below hb) (by omega)
 have hcl:=canonP_len (m,l)
 have hpg:=canon_pages hk
 have hc1:(canonP (m,l)).1=m:=rfl
 unfold entryP
 rw [hc1,←hpg]
 have hcp:canonP (m,l)=(m,(canonP (m,l)).2):=rfl
 rw [hcp]
 obtain ⟨C,hC⟩:∃ C,(canonP (m,l)).2=C:=⟨_,rfl⟩
 rw [hC] at hof hcl ⊢
 dsimp only at hcl
 clear hpg hc1 hcp hC hf hk
 have hmem:=fun e (he:e∈namedE m (pagesS C))=>namedE_mem (pagesS_ok C).2.2 he
 have hcand:=fun n b (hn:1≤n) cv=>cand_go n b hn m cv C (by omega)
 obtain ⟨es,hes⟩:∃ es,namedE m (pagesS C)=es:=⟨_,rfl⟩
 rw [hes] at hmem
 simp only [hes] at hcand
 rw [hes]
 clear hes
 obtain ⟨RES,hRES⟩:∃ RES,scanC (fun e=>(fitsV e (m,C)).isSome) (m,C) es 11=RES:=⟨_,rfl⟩
 rw [hRES]
 have HRES:=Hh hRES; clear hRES
 have hcd:=fun a n c X=>candidates_any m a n c X
 have HCD:=Hh hcd; clear hcd
 have HCK:=Hh hck; clear hck
 have HOF:=Hh hof; clear hof
 have HCAND:=Hh hcand; clear hcand
 have HMEM:=Hh hmem; clear hmem
 have HTT:=Hh hT; clear hT
 have HRR:=Hh hr
 obtain ⟨a,c,rfl,_,_⟩:=hr
 refine (callsIn_wide (n:=3)).1 ?_
 refine callsIn_of_wp_marks Tryz.func16 rfl trivial ?_ rfl
 simp only [Tryz.ntmps16,List.size_toArray,List.length_cons,List.length_nil,Nat.reduceAdd,Nat.reduceSub,Array.replicate_succ,Array.replicate_zero,List.push_toArray,List.append_toArray,List.nil_append,List.cons_append]
 refine wpIn_wide.2 ?_
 go_wp2_with fail
 have hbW:Below w.heap.size w (((w.alloc (.cells #[.string ⟨m.toArray⟩,.slice a l.length c] 24)).alloc (.cells #[.int .i64 0,.int .u8 0,.string ⟨#[]⟩,.slice none 0 0,.string ⟨#[]⟩,.bool false] 41)).alloc (.cells #[.int .i64 0] 29)):=bl
 (with_reducible refine (HCK.out _ hbW).mono ?_)
 rintro e w2 ⟨rfl,hb2⟩
 have h0:=blk_below (blk_alloc (o':=.cells #[.int .i64 0] 29) (blk_alloc (o':=.cells #[.int .i64 0,.int .u8 0,.string ⟨#[]⟩,.slice none 0 0,.string ⟨#[]⟩,.bool false] 41) (blk_new w (.cells #[.string ⟨m.toArray⟩,.slice a l.length c] 24)))) hb2 (by simp; omega)
 have h1:=blk_below (blk_alloc (o':=.cells #[.int .i64 0] 29) (blk_new (w.alloc (.cells #[.string ⟨m.toArray⟩,.slice a l.length c] 24)) (.cells #[.int .i64 0,.int .u8 0,.string ⟨#[]⟩,.slice none 0 0,.string ⟨#[]⟩,.bool false] 41))) hb2 (by simp)
 have h2:=blk_below (blk_new ((w.alloc (.cells #[.string ⟨m.toArray⟩,.slice a l.length c] 24)).alloc (.cells #[.int .i64 0,.int .u8 0,.string ⟨#[]⟩,.slice none 0 0,.string ⟨#[]⟩,.bool false] 41)) (.cells #[.int .i64 0] 29)) hb2 (by simp)
 simp only [World.size_alloc] at h1 h2
 obtain ⟨k0,k1,_,_⟩:=cells2 h0
 have H1:=Hh h1; have H2:=Hh h2
 have HB2:=Hh (hbW.trans (hb2.mono hbW.size))
 have hs2:=blk_lt h2
 have hl0:w.heap.size<w2.heap.size:=by omega
 clear hbW hb2 h0 h1 h2
 go_wp2_with fail
 (with_reducible refine (HOF.out _ HB2.out).mono ?_)
 rintro e w3 ⟨v3,rfl,hrow3,hb3⟩
 have h13:=blk_below H1.out hb3 (by omega)
 have h23:=blk_below H2.out hb3 hs2
 have hb3w:=HB2.out.trans (hb3.mono HB2.out.size)
 have hs3:w.heap.size+1+1<w3.heap.size:=blk_lt h23
 obtain ⟨a3,c3,hv3,_,_⟩:=hrow3.op
 subst hv3
 have hrw3:=hrow3.row
 clear hrow3 k0 k1 hl0 hs2
 go_wp2_with fail
 have hcd4:=HCD.out a3 C.length c3 ((w3.alloc (.cells #[.string ⟨m.toArray⟩,.slice a3 C.length c3] 24)).alloc (.cells #[.int .i64 11] 29))
 simp only [World.size_alloc] at hcd4
 (with_reducible refine hcd4.mono ?_)
 rintro e w4 ⟨rfl,hw4⟩
 have g1:w4.heap[w.heap.size+1]? = some (.cells #[.int .i64 0,.int .u8 0,.string ⟨#[]⟩,.slice none 0 0,.string ⟨#[]⟩,.bool false] 41 (0,0)):=by rw [hw4]; exact blk_alloc (blk_alloc (blk_alloc h13))
 have g2:w4.heap[w.heap.size+1+1]? = some (.cells #[.int .i64 0] 29 (0,0)):=by rw [hw4]; exact blk_alloc (blk_alloc (blk_alloc h23))
 have g5:w4.heap[w3.heap.size]? = some (.cells #[.string ⟨m.toArray⟩,.slice a3 C.length c3] 24 (0,0)):=by rw [hw4]; exact blk_alloc (blk_alloc (blk_new _ _))
 have g6:w4.heap[w3.heap.size+1]? = some (.cells #[.int .i64 11] 29 (0,0)):=by
  rw [hw4]
  have:=blk_new (w3.alloc (.cells #[.string ⟨m.toArray⟩,.slice a3 C.length c3] 24)) (.cells #[.int .i64 11] 29)
  rw [World.size_alloc] at this
  exact blk_alloc this
 have gb:w4.heap[w3.heap.size+1+1]? = some (.cells #[.string ⟨m.toArray⟩,.slice a3 C.length c3] 24 (0,0)):=by
  rw [hw4]
  have:=blk_new ((w3.alloc (.cells #[.string ⟨m.toArray⟩,.slice a3 C.length c3] 24)).alloc (.cells #[.int .i64 11] 29)) (.cells #[.string ⟨m.toArray⟩,.slice a3 C.length c3] 24)
  simpa only [World.size_alloc] using this
 have hal:Below w3.heap.size w3 w4:=by rw [hw4]; exact (((Below.refl _ _).alloc (Nat.le_refl _) _).alloc (by simp) _).alloc (by simp; omega) _
 have hrw4:=hrw3.below hal
 have hb4:=hb3w.trans (hal.mono hb3w.size)
 have hT4:=HTT.out.below hb4
 have hs4:w3.heap.size+1+1<w4.heap.size:=blk_lt gb
 have HG:=Hh (show FI w.heap.size w3.heap.size m (.slice a3 C.length c3) C 11 w4 from ⟨g1,g2,g5,g6,hrw4⟩)
 have HGB:=Hh (And.intro gb (And.intro hT4 hrw4))
 have HB4:=Hh hb4
 obtain ⟨B5,hB5⟩:∃ B5,w3.heap.size=B5:=⟨_,rfl⟩
 rw [hB5] at HG HGB hs3 hs4 ⊢
 have hown5:opc C≠[]→(Value.slice a3 C.length c3).ownBlock≠some (w3.heap.size+1):=fun hx e=>by
  obtain ⟨g,h1,h2⟩:=hrw3.own_lt hx
  rw [h1] at e
  have:=Option.some.inj e
  omega
 rw [hB5] at hown5
 have HOWN5:=Hh hown5
 clear hown5 g1 g2 g5 g6 gb hal hrw4 hb4 hT4 hw4 hcd4 hrw3 h13 h23 hb3w hb3 hB5
 go_wp2_with fail
 refine (wpIn_wide (n:=3)).1 ?_
 refine wpIn_rangeFunc_stepsA rfl (by decide) (gf:=114) (lb:=#[.pointer (some ⟨B5+1+1,0,none⟩)]) rfl trivial (enters_of Tryz.func114 (by kernel_rfl) rfl)
  (HCAND.out 2 (B5+1+1) (by decide) (.slice a3 C.length c3))
  (fun o o'=>⟨blk_alloc (blk_alloc HGB.out.1),HGB.out.2.1.below (((Below.refl _ _).alloc (Nat.le_refl _) o).alloc (by rw [World.size_alloc]; omega) o'),HGB.out.2.2.below (((Below.refl _ _).alloc (Nat.le_refl _) o).alloc (by rw [World.size_alloc]; omega) o')⟩)
  (fun A B k o h hk _ _=>blk_below hk h (blk_lt hk)) keepC_t (fun W l o o' _ hl hc _=>keepC_b W l o o' hl hc) (fun x W l o o' h _ hl hc=>⟨h.1,h.2.keepC (keepC_b (b:=0) W l o o' hl hc) (Nat.zero_le _)⟩) (fun _=>rfl)
  (fun pre W=>(∃ code:Int,(∀ rest,scanC (fun e=>(fitsV e (m,C)).isSome) (m,C) (pre.map Prod.fst++rest) 11=scanC (fun e=>(fitsV e (m,C)).isSome) (m,C) rest code)∧FI w.heap.size B5 m (.slice a3 C.length c3) C code W)∧Below w.heap.size w W)
  (fun cd pre W=>(cd=.ret∧∃ q x,pre=q++[x]∧(∀ rest,scanC (fun e=>(fitsV e (m,C)).isSome) (m,C) (pre.map Prod.fst++rest) 11=(some x.1,0))∧FX w.heap.size x W)∧Below w.heap.size w W)
  ?hI ?hIs ?hIx ?hIxs ⟨⟨11,fun rest=>rfl,HG.out⟩,HB4.out⟩
  (fun x W=>{ tmps:=#[insV m (.slice a l.length c),.pointer (some ⟨w.heap.size,0,none⟩),.pointer (some ⟨w.heap.size+1,0,none⟩),.pointer (some ⟨w.heap.size+1+1,0,none⟩),.int .i64 0,.pointer (some ⟨B5,0,none⟩),.pointer (some ⟨B5+1,0,none⟩),.pointer (some ⟨W.heap.size,0,none⟩),undef,undef,undef,.agg #[.string ⟨m.toArray⟩,.slice a l.length c],.int .i64 0,.int .i64 0,.bool false,undef,undef,.agg #[.string ⟨m.toArray⟩,.slice a l.length c],insV m (.slice a3 C.length c3),.agg #[.string ⟨m.toArray⟩,.slice a3 C.length c3],.func (.func 114) #[] #[.pointer (some ⟨B5+1+1,0,none⟩)],entV x.1 x.2,undef,undef,undef,undef,undef,undef,undef,undef,undef,undef,undef,undef,undef,undef,undef,undef,undef,undef,undef],defers:=[] })
  (fun x W=>W.alloc (.cells #[.int .i64 x.1.page,.int .u8 x.1.op,.string ⟨x.1.mn.toArray⟩,x.2,.string ⟨x.1.extra.toArray⟩,.bool x.1.alias] 41))
  (fun x a' W=>∃ k,a'={ tmps:=#[insV m (.slice a l.length c),.pointer (some ⟨w.heap.size,0,none⟩),.pointer (some ⟨w.heap.size+1,0,none⟩),.pointer (some ⟨w.heap.size+1+1,0,none⟩),.int .i64 0,.pointer (some ⟨B5,0,none⟩),.pointer (some ⟨B5+1,0,none⟩),.pointer (some ⟨k,0,none⟩),undef,undef,undef,.agg #[.string ⟨m.toArray⟩,.slice a l.length c],.int .i64 0,.int .i64 0,.bool false,undef,undef,.agg #[.string ⟨m.toArray⟩,.slice a l.length c],insV m (.slice a3 C.length c3),.agg #[.string ⟨m.toArray⟩,.slice a3 C.length c3],.func (.func 114) #[] #[.pointer (some ⟨B5+1+1,0,none⟩)],entV x.1 x.2,undef,undef,undef,undef,undef,undef,undef,undef,undef,undef,undef,undef,undef,undef,undef,undef,undef,undef,undef],defers:=[] }∧W.heap[k]? = some (.cells #[.int .i64 x.1.page,.int .u8 x.1.op,.string ⟨x.1.mn.toArray⟩,x.2,.string ⟨x.1.extra.toArray⟩,.bool x.1.alias] 41 (0,0)))
  ?assign (fun x W=>(Below.refl _ _).alloc (Nat.le_refl _) _) (fun x W=>keepC_below ((Below.refl _ _).alloc (Nat.le_refl _) _)) (fun x W h=>⟨h.1,h.2.below ((Below.refl _ _).alloc (Nat.le_refl _) _)⟩) (fun x W=>⟨_,rfl,blk_new _ _⟩) (fun x a' W l o o' ⟨k,h1,h2⟩ _ hl hc=>⟨k,h1,(keepC_b (b:=0) W l o o' hl hc).2 _ _ (Nat.zero_le _) h2 rfl⟩) ?body ?done ?stop
 case hI=>exact OwnFrom.and (fun s A B row ⟨code,h1,h2⟩ hg hr=>⟨code,h1,h2.keep (grown_keepC hg hr)⟩) (ownFrom_below (Nat.le_refl _) HB4.out.size)
 case hIs=>exact fun s A B ⟨⟨code,h1,h2⟩,h3⟩ hs=>⟨⟨code,h1,h2.keep (keepC_below hs)⟩,h3.trans (hs.mono h3.size)⟩
 case hIx=>exact fun cd=>OwnFrom.and (fun s A B row ⟨h0,q,x,h1,h2,h3⟩ hg hr=>⟨h0,q,x,h1,h2,h3.keep (grown_keepC hg hr)⟩) (ownFrom_below (Nat.le_refl _) HB4.out.size)
 case hIxs=>exact fun cd s A B ⟨⟨h0,q,x,h1,h2,h3⟩,h4⟩ hs=>⟨⟨h0,q,x,h1,h2,h3.keep (keepC_below hs)⟩,h4.trans (hs.mono h4.size)⟩
 case assign =>
  rintro l ⟨⟨page,op,mn,args,ex,al⟩,vx⟩ W K ⟨_,hgr⟩ hK
  dsimp only at hgr hK
  obtain ⟨ax,cx,rfl,_,_⟩:=hgr
  gi_wp2
  exact hK
 case body =>
  rintro lp pre ⟨⟨page,op,mn,args,ex,al⟩,vx⟩ a' W ⟨⟨code,hsc,hfi⟩,hbl⟩ ⟨hgm,hgr⟩ ⟨k,rfl,hk⟩ hN
  dsimp only at hgr hk
  have hgw:=hgr
  replace hgr:=hgr.row
  obtain ⟨hmn,hal3⟩:=HMEM.out _ hgm
  dsimp only at hmn hal3
  have hsh:=fun X (hb:Below W.heap.size W X)=>shaped_any ⟨page,op,mn,args,ex,al⟩ vx m (.slice a3 C.length c3) C X (hgr.below hb) (hfi.row.below hb) (by dsimp only; omega) (by dsimp only; rw [hmn]; omega) (by omega) (by omega)
  have hft:=fun X (hb:Below W.heap.size W X)=>sfits_any ⟨page,op,mn,args,ex,al⟩ vx m (.slice a3 C.length c3) C X (hgr.below hb) (hfi.row.below hb) (by dsimp only; omega) (by dsimp only; rw [hmn]; omega) (by omega) (by omega) hup hmne
  obtain ⟨sh,hsheq⟩:∃ sh,shapedP ⟨page,op,mn,args,ex,al⟩ (m,C)=sh:=⟨_,rfl⟩
  obtain ⟨ft,hfteq⟩:∃ ft,fitsV ⟨page,op,mn,args,ex,al⟩ (m,C)=ft:=⟨_,rfl⟩
  rw [hsheq] at hsh
  rw [hfteq] at hft
  have HSH:=Hh hsh; have HFT:=Hh hft
  have HSE:=Hh hsheq; have HFE:=Hh hfteq
  have HSC:=Hh hsc; have HFI:=Hh hfi; have HBL:=Hh hbl; have HGR:=Hh hgw; have HK:=Hh hk
  obtain ⟨ax,cx,hvx,_,_⟩:=hgr
  subst hvx
  clear hsh hft hsheq hfteq hsc hgm hal3 hmn hgw
  obtain ⟨⟨k0,k1,k2,k3,k4,k5⟩,_⟩:=cells6 hk
  obtain ⟨c0,c1,_,_⟩:=cells2 hfi.r5
  have hlk:=blk_lt hk
  have hl5:=blk_lt hfi.r5
  have hl6:=blk_lt hfi.r6
  clear hfi hk hbl
  cases al with
  | true =>
    gi_wp2_with fail
    refine ⟨trivial,?_⟩
    gi_wp2_with fail
    exact ⟨KeepsOthers.refl _,⟨Nat.le_refl _,fun _ _ _ h _=>h⟩,⟨⟨code,fun rest=>by rw [List.map_append,List.append_assoc,HSC.out]; exact scan_skip rfl rest code,HFI.out⟩,HBL.out⟩⟩
  | false =>
    gi_wp2_with fail
    refine ⟨trivial,?_⟩
    refine (CallsIn.inRound lp (callsIn_wide.2 (HSH.out _ (Below.refl _ _)))).mono ?_
    rintro e W1 ⟨rfl,hb1⟩
    have hk1:=blk_below HK.out hb1 hlk
    have hfi1:=HFI.out.keep (keepC_below hb1)
    have hft1:=HFT.out _ hb1
    have HFI1:=Hh hfi1; have HK1:=Hh hk1
    have HB1:=Hh hb1
    have HBL1:=Hh (HBL.out.trans (hb1.mono HBL.out.size))
    clear k0 k1 k2 k3 k4 k5 c0 c1 hb1
    obtain ⟨⟨k0,k1,k2,k3,k4,k5⟩,_⟩:=cells6 hk1
    obtain ⟨c0,c1,_,_⟩:=cells2 hfi1.r5
    clear hk1 hfi1
    cases sh with
    | false =>
      gi_wp2_with fail
      exact ⟨keepO_below HB1.out,keepC_below HB1.out,⟨⟨code,fun rest=>by rw [List.map_append,List.append_assoc,HSC.out]; exact scan_skip (by rw [HSE.out]; rfl) rest code,HFI1.out⟩,HBL1.out⟩⟩
    | true =>
      cases ft with
      | none =>
        have hft2:Calls Tryz.prog 54 #[.agg #[.int .i64 page,.int .u8 op,.string ⟨mn.toArray⟩,.slice ax args.length cx,.string ⟨ex.toArray⟩,.bool false],.agg #[.string ⟨m.toArray⟩,.slice a3 C.length c3]] W1 fun e w'=>e=.returned (.tuple #[.int .i64 0,.int .i64 0,.bool false])∧Below W1.heap.size W1 w':=hft1
        have HF2:=Hh hft2; clear hft1 hft2
        gi_wp2_with fail
        refine ⟨trivial,?_⟩
        refine (CallsIn.inRound lp (callsIn_wide.2 HF2.out)).mono ?_
        rintro e W2 ⟨rfl,hb2⟩
        have hfi2:=HFI1.out.keep (keepC_below hb2)
        have HFI2:=Hh hfi2
        have HB2:=Hh (HB1.out.trans (hb2.mono HB1.out.size))
        have HBL2:=Hh (HBL1.out.trans (hb2.mono HBL1.out.size))
        have q6:W2.cell? ⟨B5+1,0,none⟩=some (.int .i64 code):=by rw [blk_cell hfi2.r6]; rfl
        have q7:W2.frozen? ⟨B5+1,0,none⟩=false:=blk_frozen hfi2.r6 0
        have hl62:=blk_lt hfi2.r6
        clear hfi2 hb2 k0 k1 k2 k3 k4 k5 c0 c1
        gi_wp2_with fail
        refine ⟨(keepO_below HB2.out).trans (KeepsOthers.setCell _ _ _),keepC_t (keepC_below HB2.out) (keepC_set _ _ (by omega)),⟨⟨2,fun rest=>by rw [List.map_append,List.append_assoc,HSC.out]; exact scan_miss (by rw [HSE.out]; rfl) (by rw [HFE.out]; rfl) rest code,⟨blk_other HFI2.out.r1 (by omega),blk_other HFI2.out.r2 (by omega),blk_other HFI2.out.r5 (by omega),blk_set HFI2.out.r6,?_⟩⟩,HBL2.out.setCell (p:=⟨B5+1,0,none⟩) (by show w.heap.size≤B5+1; omega) _⟩⟩
        exact HFI2.out.row.setOther HOWN5.out
      | some dn =>
        obtain ⟨d,nn⟩:=dn
        have hft2:Calls Tryz.prog 54 #[.agg #[.int .i64 page,.int .u8 op,.string ⟨mn.toArray⟩,.slice ax args.length cx,.string ⟨ex.toArray⟩,.bool false],.agg #[.string ⟨m.toArray⟩,.slice a3 C.length c3]] W1 fun e w'=>e=.returned (.tuple #[.int .i64 d,.int .i64 nn,.bool true])∧Below W1.heap.size W1 w':=hft1
        have HF2:=Hh hft2; clear hft1 hft2
        gi_wp2_with fail
        refine ⟨trivial,?_⟩
        refine (CallsIn.inRound lp (callsIn_wide.2 HF2.out)).mono ?_
        rintro e W2 ⟨rfl,hb2⟩
        have hfi2:=HFI1.out.keep (keepC_below hb2)
        have hk2:=blk_below HK1.out hb2 (blk_lt HK1.out)
        have HFI2:=Hh hfi2
        have HB2:=Hh (HB1.out.trans (hb2.mono HB1.out.size))
        have HBL2:=Hh (HBL1.out.trans (hb2.mono HBL1.out.size))
        have HGR2:=Hh (HGR.out.below HB2.out)
        clear k0 k1 k2 k3 k4 k5 c0 c1
        obtain ⟨⟨k0,k1,k2,k3,k4,k5⟩,_⟩:=cells6 hk2
        obtain ⟨⟨z0,z1,z2,z3,z4,z5⟩,y0,y1,y2,y3,y4,y5⟩:=cells6 hfi2.r1
        have q6:W2.cell? ⟨w.heap.size+1+1,0,none⟩=some (.int .i64 0):=by rw [blk_cell hfi2.r2]; rfl
        have q7:W2.frozen? ⟨w.heap.size+1+1,0,none⟩=false:=blk_frozen hfi2.r2 0
        have hl12:=blk_lt hfi2.r1
        have hl22:=blk_lt hfi2.r2
        clear hfi2 hb2 hk2
        gi_wp2_with fail
        refine ⟨?_,⟨rfl,pre,(⟨page,op,mn,args,ex,false⟩,.slice ax args.length cx),rfl,fun rest=>by rw [List.map_append,List.append_assoc,HSC.out]; exact scan_hit (by rw [HSE.out]; rfl) (by rw [HFE.out]; rfl) rest code,⟨blk_other (blk_set (blk_set (blk_set (blk_set (blk_set (blk_set HFI2.out.r1)))))) (by omega),blk_set (blk_other (blk_other (blk_other (blk_other (blk_other (blk_other HFI2.out.r2 (by omega)) (by omega)) (by omega)) (by omega)) (by omega)) (by omega)),?_⟩⟩,?_⟩
        · with_reducible repeat (refine KeepsOthers.trans ?_ (KeepsOthers.setCell _ _ _))
          exact keepO_below HB2.out
        · have hz:=(((((((Kb.refl (w.heap.size+1) W2).setCell 0 (.int .i64 page)).setCell 1 (.int .u8 op)).setCell 2 (.string ⟨mn.toArray⟩)).setCell 3 (.slice ax args.length cx)).setCell 4 (.string ⟨ex.toArray⟩)).setCell 5 (.bool false))
          exact ((HGR2.out.kb hz (by omega)).kb ((Kb.refl (w.heap.size+1+1) _).setCell 0 (.int .i64 0)) (by omega)).row
        · have hb9:=HBL2.out
          with_reducible repeat (refine Below.setCell ?_ (by first | exact Nat.le_refl _ | exact Nat.le_succ _ | (show w.heap.size≤w.heap.size+1+1; omega)) _)
          exact hb9
 case done =>
  rintro D ys W hD hys ⟨⟨code,hsc,hfi⟩,hbl⟩ hK
  have hres:=hsc []
  rw [List.append_nil,hys,HRES.out] at hres
  have HR:=Hh (show RES=(none,code) from hres)
  have HFI:=Hh hfi; have HBL:=Hh hbl
  obtain ⟨⟨z0,z1,z2,z3,z4,z5⟩,y0,y1,y2,y3,y4,y5⟩:=cells6 hfi.r1
  have q6:W.cell? ⟨w.heap.size+1+1,0,none⟩=some (.int .i64 0):=by rw [blk_cell hfi.r2]; rfl
  have q7:W.frozen? ⟨w.heap.size+1+1,0,none⟩=false:=blk_frozen hfi.r2 0
  have q8:W.cell? ⟨B5+1,0,none⟩=some (.int .i64 code):=by rw [blk_cell hfi.r6]; rfl
  have hl12:=blk_lt hfi.r1
  have hl22:=blk_lt hfi.r2
  have hl62:=blk_lt hfi.r6
  have hchain:∀ v0 v1 v2 v3 v4 v5 vk,((((((((W.setCell ⟨w.heap.size+1,0,none⟩ v0).setCell ⟨w.heap.size+1,1,none⟩ v1).setCell ⟨w.heap.size+1,2,none⟩ v2).setCell ⟨w.heap.size+1,3,none⟩ v3).setCell ⟨w.heap.size+1,4,none⟩ v4).setCell ⟨w.heap.size+1,5,none⟩ v5).setCell ⟨w.heap.size+1+1,0,none⟩ vk)).drew.heap[w.heap.size+1]? = some (.cells #[v0,v1,v2,v3,v4,v5] 41 (0,0))∧((((((((W.setCell ⟨w.heap.size+1,0,none⟩ v0).setCell ⟨w.heap.size+1,1,none⟩ v1).setCell ⟨w.heap.size+1,2,none⟩ v2).setCell ⟨w.heap.size+1,3,none⟩ v3).setCell ⟨w.heap.size+1,4,none⟩ v4).setCell ⟨w.heap.size+1,5,none⟩ v5).setCell ⟨w.heap.size+1+1,0,none⟩ vk)).drew.heap[w.heap.size+1+1]? = some (.cells #[vk] 29 (0,0))∧((((((((W.setCell ⟨w.heap.size+1,0,none⟩ v0).setCell ⟨w.heap.size+1,1,none⟩ v1).setCell ⟨w.heap.size+1,2,none⟩ v2).setCell ⟨w.heap.size+1,3,none⟩ v3).setCell ⟨w.heap.size+1,4,none⟩ v4).setCell ⟨w.heap.size+1,5,none⟩ v5).setCell ⟨w.heap.size+1+1,0,none⟩ vk)).drew.heap[D]? = some (.deferred (some []))∧Below w.heap.size w ((((((((W.setCell ⟨w.heap.size+1,0,none⟩ v0).setCell ⟨w.heap.size+1,1,none⟩ v1).setCell ⟨w.heap.size+1,2,none⟩ v2).setCell ⟨w.heap.size+1,3,none⟩ v3).setCell ⟨w.heap.size+1,4,none⟩ v4).setCell ⟨w.heap.size+1,5,none⟩ v5).setCell ⟨w.heap.size+1+1,0,none⟩ vk)).drew:=fun v0 v1 v2 v3 v4 v5 vk=>by
   refine ⟨blk_drew ?_,blk_drew ?_,blk_drew ?_,?_⟩
   · exact blk_other (blk_set (blk_set (blk_set (blk_set (blk_set (blk_set HFI.out.r1)))))) (by omega)
   · exact blk_set (blk_other (blk_other (blk_other (blk_other (blk_other (blk_other HFI.out.r2 (by omega)) (by omega)) (by omega)) (by omega)) (by omega)) (by omega))
   · exact blk_other (blk_other (blk_other (blk_other (blk_other (blk_other (blk_other hK (by omega)) (by omega)) (by omega)) (by omega)) (by omega)) (by omega)) (by omega)
   · refine Below.drew ?_
     have hb9:=HBL.out
     with_reducible repeat (refine Below.setCell ?_ (by first | exact Nat.le_refl _ | exact Nat.le_succ _ | (show w.heap.size≤w.heap.size+1+1; omega)) _)
     exact hb9
  obtain ⟨g1,g2,g3,g4⟩:=hchain (.int .i64 0) (.int .u8 0) (.string ⟨#[]⟩) (.slice none 0 0) (.string ⟨#[]⟩) (.bool false) (.int .i64 code)
  have hDw:w.heap.size≤D:=by have:=HB4.out.size; omega
  have HG1:=Hh g1; have HG2:=Hh g2; have HG3:=Hh g3; have HG4:=Hh g4
  clear hsc hfi hbl hres hys hchain g1 g2 g3 g4
  go_wp2_with fail
  go_region
  all_goals
   obtain ⟨X,hX⟩:∃ X,((((((((W.setCell ⟨w.heap.size+1,0,none⟩ (.int .i64 0)).setCell ⟨w.heap.size+1,1,none⟩ (.int .u8 0)).setCell ⟨w.heap.size+1,2,none⟩ (.string ⟨#[]⟩)).setCell ⟨w.heap.size+1,3,none⟩ (.slice none 0 0)).setCell ⟨w.heap.size+1,4,none⟩ (.string ⟨#[]⟩)).setCell ⟨w.heap.size+1,5,none⟩ (.bool false)).setCell ⟨w.heap.size+1+1,0,none⟩ (.int .i64 code))).drew=X:=⟨_,rfl⟩
   rw [hX] at HG1 HG2 HG3 HG4 ⊢
   clear hX
   go_wp2_with fail
   refine ⟨by simp,.inl ⟨_,_,rfl,run_takeDeferred HG3.out,?_⟩⟩
   obtain ⟨⟨n0,n1,n2,n3,n4,n5⟩,_⟩:=cells6 ((keepC_b (b:=0) X D _ (.deferred none) HG3.out rfl).2 _ _ (Nat.zero_le _) HG1.out rfl)
   have n6:=blk_cell ((keepC_b (b:=0) X D _ (.deferred none) HG3.out rfl).2 _ _ (Nat.zero_le _) HG2.out rfl) 0
   simp only [List.getElem?_toArray,List.getElem?_cons_zero] at n6
   refine ⟨.tuple #[entV ent0 (.slice none 0 0),.int .i64 code],?_,⟨_,by rw [HR.out]; rfl,by rw [HR.out]; exact (WRow.nil _ 0).row,HG4.out.trans (belowK_b (w:=w) (Nat.le_refl _) X D _ _ hDw HG3.out rfl rfl)⟩⟩
   simp [results,Tryz.f16,go_sem,n0,n1,n2,n3,n4,n5,n6,ent0]
 case stop =>
  rintro D cd pre W hD hpre ⟨⟨rfl,q,x,hq,hsc,hfx⟩,hbl⟩ hK
  obtain ⟨rest,hrest⟩:=hpre
  have hres:=hsc rest
  rw [hrest,HRES.out] at hres
  have HR:=Hh (show RES=(some x.1,0) from hres)
  have hDw:w.heap.size≤D:=by have:=HB4.out.size; omega
  obtain ⟨⟨n0,n1,n2,n3,n4,n5⟩,_⟩:=cells6 ((keepC_b (b:=0) W D _ (.deferred none) hK rfl).2 _ _ (Nat.zero_le _) hfx.r1 rfl)
  have n6:=blk_cell ((keepC_b (b:=0) W D _ (.deferred none) hK rfl).2 _ _ (Nat.zero_le _) hfx.r2 rfl) 0
  simp only [List.getElem?_toArray,List.getElem?_cons_zero] at n6
  have hrowx:=hfx.row.keepC (keepC_b (b:=0) W D _ (.deferred none) hK rfl)
  obtain ⟨⟨page,op,mn,args,ex,al⟩,vx⟩:=x
  dsimp only at n0 n1 n2 n3 n4 n5 hrowx
  obtain ⟨ax,cx,rfl,hcx,hxx⟩:=hrowx
  have HROWX:=Hh (show Row _ (.slice ax args.length cx) args.length (opc args) from ⟨_,_,rfl,hcx,hxx⟩)
  clear hsc hfx hres hrest hq hxx
  gi_wp2
  refine ⟨by simp,.inl ⟨_,_,rfl,run_takeDeferred hK,?_⟩⟩
  refine ⟨.tuple #[entV ⟨page,op,mn,args,ex,al⟩ (.slice ax args.length cx),.int .i64 0],?_,⟨_,by rw [HR.out]; rfl,by rw [HR.out]; exact HROWX.out,hbl.trans (belowK_b (w:=w) (Nat.le_refl _) W D _ _ hDw hK rfl rfl)⟩⟩
  simp [results,Tryz.f16,go_sem,n0,n1,n2,n3,n4,n5,n6]
theorem find7_any (m:List UInt8) (v:Value) (l:List Op3) (w:World) (hT:TabsA w) (hr:Row w v l.length (opc l)) (hl:l.length≤1000):Calls Tryz.prog 16 #[insV m v] w (FindRes (m,l) w):=by
 by_cases hk:checkP (m,l)=0
 · exact find_good m v l w hT hr hk
 · exact find_bad m v l w hT hr hl _ rfl hk
end Go.Proofs.YtkldoojonnkfgaaGreatDoor
namespace Go.Proofs.YtkldoojonnkfgaaGreatDoor
open Go.RowKit Go.Sort
set_option maxRecDepth 100000 in
set_option maxHeartbeats 2000000 in
theorem legal1_any (m:List UInt8) (v:Value) (l:List Op3) (w:World) (hT:TabsA w) (hr:Row w v l.length (opc l)) (hl:l.length≤1000) (R:Bool) (hR:decide ((findI (m,l)).2≠0)=R) :
 Calls Tryz.prog 43 #[insV m v] w fun e w'=>e=.returned (.bool R)∧Below w.heap.size w w':=by
 have hf:=fun X (hb:Below w.heap.size w X)=>find7_any m v l X (hT.below hb) (hr.below hb) hl
 unfold FindRes at hf
 obtain ⟨F,hF⟩:∃ F,findI (m,l)=F:=⟨_,rfl⟩
 simp only [hF] at hf hR
 obtain ⟨fo,fc⟩:=F
 dsimp only at hf hR
 obtain ⟨E,hE⟩:∃ E,fo.getD ent0=E:=⟨_,rfl⟩
 simp only [hE] at hf
 obtain ⟨page,op,mn,args,ex,al⟩:=E
 have hf2:∀ X,Below w.heap.size w X→Calls Tryz.prog 16 #[insV m v] X fun e w'=>∃ v,e=.returned (.tuple #[.agg #[.int .i64 page,.int .u8 op,.string ⟨mn.toArray⟩,v,.string ⟨ex.toArray⟩,.bool al],.int .i64 fc])∧Row w' v args.length (opc args)∧Below X.heap.size X w':=hf
 have HF:=Hh hf2
 have hRR:(fc != 0)=R:=by rw [←hR]; by_cases h:fc=0<;>simp [h]
 obtain ⟨a,c,rfl,_,_⟩:=hr
 clear hf hf2 hF hE hR hT
 cases R with
 | false =>
   have hfc:fc=0:=by simpa using hRR
   subst hfc
   clear hRR
   go_enter Tryz.func43,Tryz.ntmps43
   go_wp2_with fail
   have hbW:Below w.heap.size w (w.alloc (.cells #[.string ⟨m.toArray⟩,.slice a l.length c] 24)):=(Below.refl _ _).alloc (Nat.le_refl _) _
   (with_reducible refine (HF.out _ hbW).mono ?_)
   rintro e w2 ⟨v2,rfl,hr2,hb2⟩
   obtain ⟨a2,c2,rfl,_,_⟩:=hr2
   have HB:=Hh (hbW.trans (hb2.mono hbW.size))
   clear hbW hb2
   go_wp2_with fail
   go_ret
   exact ⟨rfl,HB.out.alloc HB.out.size _⟩
 | true =>
   go_enter Tryz.func43,Tryz.ntmps43
   go_wp2_with fail
   have hbW:Below w.heap.size w (w.alloc (.cells #[.string ⟨m.toArray⟩,.slice a l.length c] 24)):=(Below.refl _ _).alloc (Nat.le_refl _) _
   (with_reducible refine (HF.out _ hbW).mono ?_)
   rintro e w2 ⟨v2,rfl,hr2,hb2⟩
   obtain ⟨a2,c2,rfl,_,_⟩:=hr2
   have HB:=Hh (hbW.trans (hb2.mono hbW.size))
   clear hbW hb2
   go_wp2_with fail
   go_ret
   exact ⟨rfl,HB.out.alloc HB.out.size _⟩
theorem t155_0 {p:Prop} (h:p:=by
 go_enter Tryz.func11,Tryz.ntmps11
 go_wp2_with fail
 refine HC.out.mono ?_
 rintro e w1 ⟨rfl,hb⟩
 have HB:=Hh hb; clear hb
 go_wp2_with fail
 go_ret
 exact ⟨rfl,HB.out⟩):p:=h
set_option maxHeartbeats 1000000 in
theorem legal_any (m:List UInt8) (v:Value) (l:List Op3) (g:Nat) (w:World) (hT:TabsA w) (h1:Row w (.slice (some ⟨g,0,none⟩) 1 1) 1 [.string ⟨m.toArray⟩,v]) (hr:Row w v l.length (opc l)) (hl:l.length≤1000) :
 Calls Tryz.prog 11 #[.slice (some ⟨g,0,none⟩) 1 1] w fun e w'=>e=.returned (.bool (decide ((findI (m,l)).2=0)))∧Below w.heap.size w w':=by
 have hc:=containsFuncI _ 43 #[] g m v w h1 (enters_of Tryz.func43 (by kernel_rfl) rfl) (legal1_any m v l w hT hr hl _ rfl)
 have e:decide ((findI (m,l)).2=0)=!decide ((findI (m,l)).2≠0):=by by_cases h:(findI (m,l)).2=0<;>simp [h]
 rw [e]
 obtain ⟨R,hR⟩:∃ R,decide ((findI (m,l)).2≠0)=R:=⟨_,rfl⟩
 rw [hR] at hc ⊢
 have HC:=Hh hc; clear hc hR e h1 hr
 cases R with
 | false =>
   exact t155_0
 | true =>
   exact t155_0
end Go.Proofs.YtkldoojonnkfgaaGreatDoor
