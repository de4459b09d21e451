/- Joined texts: ParsO, ParsU. -/
import Derived.Test.YtkldoojonnkfgaaGreatDoorC11
namespace Go.Proofs.YtkldoojonnkfgaaGreatDoor
open Go.RowKit Go.Sort
theorem alloc2_at (w:World) (X Y:Obj):((w.alloc X).alloc Y).heap[w.heap.size+1]? = some Y:=by
 show ((w.heap.push X).push Y)[w.heap.size+1]? = some Y
 rw [Array.getElem?_push,if_pos (by simp)]
theorem emptyB (s:ByteArray) (h:s.toList=[]):s=⟨#[]⟩:=by
 rw [ByteArray.toList_eq] at h
 apply ByteArray.ext
 apply Array.ext'
 rw [h]
set_option maxHeartbeats 8000000 in
set_option maxRecDepth 100000 in
theorem operand_step (l:List Tok) (ih:∀ l':List Tok,l'.length<l.length→BC l'):OC l:=by
 intro b w hs hS hU
 rcases l with _ | ⟨t,l⟩
 · have hb:b<w.heap.size:=hS.lt
   have hsg:=fun w hS=>psign_any [] b w hS hs
   have HSG:=Hh hsg; clear hsg ih hU
   have HS:=Hh hS; clear hS
   go_enter Tryz.func381,Tryz.ntmps381
   go_wp2_with fail
   refine (HSG.out _ HS.out).mono ?_
   rintro e w1 ⟨rfl,hb1⟩
   obtain ⟨p1,rfl⟩:=gw_of_below hb1
   clear hb1
   go_wp2_with fail
   refine (take_none b _ (HS.out.gw _)).mono ?_
   rintro e w2 ⟨rfl,hb2⟩
   obtain ⟨p2,rfl⟩:=gw_of_below hb2
   clear hb2
   go_wp2_with fail
   refine ⟨rfl,?_⟩
   exact ⟨none,.nil,kbq,rfl⟩
 · have hb:b<w.heap.size:=hS.lt
   have hu:tU t=false:=hU t l rfl
   have hts:=hs t (by simp)
   have hsl:=hs.tail
   have hsg:=fun w hS=>psign_any (t::l) b w hS hs
   have ihl:=ih l (by simp)
   have hL:∀ b',(tnm t).toList=b'→tL t=(b' == [40]):=fun b' h=>by unfold tL; rw [h]
   have hat:∀ a,tatom t=a→P exLang (.U (t::l)) (a.map fun e=>(e,l))∨tL t=true:=fun a ha=>by
    rcases h:tL t with _ | _
    · left; have:=P.atom (S:=exLang) t l hu h; rw [show exLang.atom t=tatom t from rfl,ha] at this; exact this
    · exact .inr rfl
   obtain ⟨N,hN⟩:∃ N,tnm t=N:=⟨_,rfl⟩
   have hat2:=hat _ rfl
   unfold tatom at hat2
   simp only [show hdn (t::l)=N from hN] at hsg
   rw [hN] at hat2 hL
   obtain ⟨tk,tt,tn,ta⟩:=t
   simp only at hts hat2
   have hne:N.toList.isEmpty=decide (N.toList=[]):=by cases N.toList<;>simp
   have HS:=Hh hS; clear hS
   have HSG:=Hh hsg; clear hsg hat hU ih hs
   have HIH:=Hh ihl; clear ihl
   have HSL:=Hh hsl; clear hsl hN
   have hP:=hL _ rfl
   clear hL
   have HU:=Hh hu; clear hu
   by_cases h36:N.toList=[36]
   · rw [h36] at hP hne
     rw [if_pos h36] at hat2
     have hp:=hat2.resolve_right (by rw [hP]; decide)
     have HP:=Hh hp; clear hp hat2 hP hne
     go_enter Tryz.func381,Tryz.ntmps381
     go_wp2_with fail
     refine (HSG.out _ HS.out).mono ?_
     rintro e w1 ⟨rfl,hb1⟩
     obtain ⟨p1,rfl⟩:=gw_of_below hb1
     clear hb1
     go_wp2_with fail
     refine (take_some _ l b _ (HS.out.gw _)).mono ?_
     rintro e w2 ⟨rfl,hS2,hK2⟩
     have HK:=Hh (Kb.trans (kbq:Kb b w _) hK2); clear hK2
     have hb2:b<w2.heap.size:=hS2.lt
     have HS2:=Hh hS2; clear hS2
     go_wp2_with fail
     go_ret
     refine ⟨some (.here,l),HP.out,kbq,_,rfl,⟨w2.heap.size+1,by omega,rfl,?_⟩,(HS2.out.alloc _).alloc _⟩
     exact alloc2_at _ _ _
   have n36:(N.toList == [36])=false:=by simpa using h36
   rw [if_neg h36] at hat2
   by_cases h40:N.toList=[40]
   · have hLt:exLang.isL ⟨tk,tt,tn,ta⟩=true:=by show tL _=true; rw [hP,h40]; rfl
     have HL:=Hh hLt; clear hLt hP hne hat2 h36 n36
     go_enter Tryz.func381,Tryz.ntmps381
     go_wp2_with fail
     refine (HSG.out _ HS.out).mono ?_
     rintro e w1 ⟨rfl,hb1⟩
     obtain ⟨p1,rfl⟩:=gw_of_below hb1
     clear hb1
     go_wp2_with fail
     refine (take_some _ l b _ (HS.out.gw _)).mono ?_
     rintro e w2 ⟨rfl,hS2,hK2⟩
     have HK:=Hh (Kb.trans (kbq:Kb b w _) hK2); clear hK2
     have hb2:b<w2.heap.size:=hS2.lt
     have HS2:=Hh hS2; clear hS2
     go_wp2_with fail
     refine (HIH.out 1 b _ HSL.out (HS2.out.alloc _)).mono ?_
     rintro e w3 ⟨res,hpb,hk3,hres⟩
     have HPB:=Hh hpb; clear hpb
     rcases res with _ | ⟨x,rest⟩
     · simp only at hres
       subst hres
       have HK3:=Hh (Kb.trans (kbq:Kb b w _) hk3); clear hk3 HK
       have HK:=HK3
       go_wp2_with fail
       refine ⟨rfl,?_⟩
       exact ⟨none,.parN _ _ none HU.out HL.out HPB.out (fun e t' r h=>by cases h),kbq,rfl⟩
     · obtain ⟨v,rfl,hn3,hs3⟩:=hres
       have hends:=(P.ends HPB.out x rest rfl).2 1 l rfl
       have hsr:Small rest:=by obtain ⟨l1,h,_⟩:=hends; have:=HSL.out; rw [h] at this; exact this.suffix
       clear hends
       have HK3:=Hh (Kb.trans (kbq:Kb b w _) hk3); clear hk3 HK
       have HK:=HK3
       have hb3:b<w3.heap.size:=hs3.lt
       have hsg3:=fun w hS=>psign_any rest b w hS hsr
       have HSG3:=Hh hsg3; clear hsg3
       have HS3:=Hh hs3; clear hs3
       have HN3:=Hh hn3; clear hn3
       by_cases h41:(hdn rest).toList=[41]
       · rcases rest with _ | ⟨t',r⟩
         · exfalso; rw [show hdn []=(⟨#[]⟩:ByteArray) from rfl,ByteArray.toList_eq] at h41; cases h41
         have hR:exLang.isR t'=true:=by show ((tnm t').toList == [41])=true; rw [show tnm t'=hdn (t'::r) from rfl,h41]; rfl
         have HR:=Hh hR; clear hR
         go_wp2_with fail
         refine (HSG3.out _ HS3.out).mono ?_
         rintro e w4 ⟨rfl,hb4⟩
         obtain ⟨p4,rfl⟩:=gw_of_below hb4
         clear hb4
         go_wp2_with fail
         refine (take_some _ r b _ (HS3.out.gw _)).mono ?_
         rintro e w5 ⟨rfl,hS5,hK5⟩
         have hn5:=NodeAt.kb (HN3.out.below (below_gw w3 p4)) hK5 (by omega)
         have HN5:=Hh hn5; clear hn5
         have HK5:=Hh (Kb.trans (kbq:Kb b w _) hK5); clear hK5 HK
         have HK:=HK5
         have HS5:=Hh hS5; clear hS5
         go_wp2_with fail
         go_ret
         exact ⟨some (x,r),.par _ t' l r x HU.out HL.out HPB.out HR.out,kbq,v,rfl,HN5.out,HS5.out⟩
       · have n41:((hdn rest).toList == [41])=false:=by simpa using h41
         go_wp2_with fail
         refine (HSG3.out _ HS3.out).mono ?_
         rintro e w4 ⟨rfl,hb4⟩
         obtain ⟨p4,rfl⟩:=gw_of_below hb4
         clear hb4
         go_wp2_with fail
         refine ⟨rfl,?_⟩
         refine ⟨none,.parN _ _ _ HU.out HL.out HPB.out (fun e t' r h=>?_),kbq,rfl⟩
         cases h
         have:exLang.isR t'=((tnm t').toList == [41]):=rfl
         rw [this]; exact n41
   have n40:(N.toList == [40])=false:=by simpa using h40
   rw [n40] at hP
   have hat3:=hat2.resolve_right (by rw [hP]; decide)
   clear hat2 hP h40 h36
   by_cases he:N.toList=[]
   · rw [decide_eq_true he] at hne
     rw [if_neg (fun h=>h he)] at hat3
     have hN0:=emptyB N he
     by_cases h1:tk=1
     · rw [if_pos h1] at hat3
       subst h1
       have HP:=Hh hat3; clear hat3
       have HN0:=Hh hN0; clear hN0 he
       go_enter Tryz.func381,Tryz.ntmps381
       go_wp2_with fail
       refine (HSG.out _ HS.out).mono ?_
       rintro e w1 ⟨rfl,hb1⟩
       obtain ⟨p1,rfl⟩:=gw_of_below hb1
       clear hb1
       go_wp2_with fail
       refine (take_some _ l b _ (HS.out.gw _)).mono ?_
       rintro e w2 ⟨rfl,hS2,hK2⟩
       have HK:=Hh (Kb.trans (kbq:Kb b w _) hK2); clear hK2
       have hb2:b<w2.heap.size:=hS2.lt
       have HS2:=Hh hS2; clear hS2
       go_wp2_with fail
       go_ret
       refine ⟨some (.sym tt,l),HP.out,kbq,_,rfl,⟨w2.heap.size+1,by omega,rfl,?_⟩,(HS2.out.alloc _).alloc _⟩
       exact alloc2_at _ _ _
     have b1:(tk == 1)=false:=by simpa using h1
     rw [if_neg h1] at hat3
     clear h1
     by_cases h2:tk=2
     · rw [if_pos h2] at hat3
       subst h2
       have HP:=Hh hat3; clear hat3
       have HN0:=Hh hN0; clear hN0 he
       go_enter Tryz.func381,Tryz.ntmps381
       go_wp2_with fail
       refine (HSG.out _ HS.out).mono ?_
       rintro e w1 ⟨rfl,hb1⟩
       obtain ⟨p1,rfl⟩:=gw_of_below hb1
       clear hb1
       go_wp2_with fail
       refine (take_some _ l b _ (HS.out.gw _)).mono ?_
       rintro e w2 ⟨rfl,hS2,hK2⟩
       have HK:=Hh (Kb.trans (kbq:Kb b w _) hK2); clear hK2
       have hb2:b<w2.heap.size:=hS2.lt
       have HS2:=Hh hS2; clear hS2
       go_wp2_with fail
       go_ret
       refine ⟨some (.num tn,l),HP.out,kbq,_,rfl,⟨w2.heap.size+1,by omega,rfl,?_⟩,(HS2.out.alloc _).alloc _⟩
       exact alloc2_at _ _ _
     have b2:(tk == 2)=false:=by simpa using h2
     rw [if_neg h2] at hat3
     clear h2
     by_cases h3:tk=3∧tt.toList.length=1
     · rw [if_pos h3] at hat3
       obtain ⟨rfl,h31⟩:=h3
       have hz:tt.size=1:=by rw [ByteArray.toList_eq] at h31; simpa using h31
       have hz0:0<tt.size:=by omega
       have hz1:((tt.size:Int) == 1)=true:=by simp; omega
       rw [head_byte tt hz0] at hat3
       have hw64:wrap64 (tt[0].toNat:Int)=(tt[0].toNat:Int):=by have:=tt[0].toNat_lt; simp only [wrap64]; omega
       have HP:=Hh hat3; clear hat3 h31 hz
       have HN0:=Hh hN0; clear hN0 he
       go_enter Tryz.func381,Tryz.ntmps381
       go_wp2_with fail
       refine (HSG.out _ HS.out).mono ?_
       rintro e w1 ⟨rfl,hb1⟩
       obtain ⟨p1,rfl⟩:=gw_of_below hb1
       clear hb1
       go_wp2_with fail
       refine (take_some _ l b _ (HS.out.gw _)).mono ?_
       rintro e w2 ⟨rfl,hS2,hK2⟩
       have HK:=Hh (Kb.trans (kbq:Kb b w _) hK2); clear hK2
       have hb2:b<w2.heap.size:=hS2.lt
       have HS2:=Hh hS2; clear hS2
       go_wp2_with fail
       go_ret
       refine ⟨some ((.num (tt[0].toNat:Int)),l),HP.out,kbq,_,rfl,⟨w2.heap.size+1,by omega,rfl,?_⟩,(HS2.out.alloc _).alloc _⟩
       exact alloc2_at _ _ _
     rw [if_neg h3] at hat3
     have HP:=Hh hat3; clear hat3
     have HN0:=Hh hN0; clear hN0 he
     by_cases h33:tk=3
     · have hz:¬ tt.size=1:=fun h=>h3 ⟨h33,by rw [ByteArray.toList_eq]; simpa using h⟩
       have hz1:((tt.size:Int) == 1)=false:=by simp; omega
       subst h33
       clear h3
       go_enter Tryz.func381,Tryz.ntmps381
       go_wp2_with fail
       refine (HSG.out _ HS.out).mono ?_
       rintro e w1 ⟨rfl,hb1⟩
       obtain ⟨p1,rfl⟩:=gw_of_below hb1
       clear hb1
       go_wp2_with fail
       refine (take_some _ l b _ (HS.out.gw _)).mono ?_
       rintro e w2 ⟨rfl,hS2,hK2⟩
       have HK:=Hh (Kb.trans (kbq:Kb b w _) hK2); clear hK2
       have hb2:b<w2.heap.size:=hS2.lt
       have HS2:=Hh hS2; clear hS2
       go_wp2_with fail
       refine ⟨rfl,?_⟩
       exact ⟨none,HP.out,kbq,rfl⟩
     · have b3:(tk == 3)=false:=by simpa using h33
       clear h3 h33
       go_enter Tryz.func381,Tryz.ntmps381
       go_wp2_with fail
       refine (HSG.out _ HS.out).mono ?_
       rintro e w1 ⟨rfl,hb1⟩
       obtain ⟨p1,rfl⟩:=gw_of_below hb1
       clear hb1
       go_wp2_with fail
       refine (take_some _ l b _ (HS.out.gw _)).mono ?_
       rintro e w2 ⟨rfl,hS2,hK2⟩
       have HK:=Hh (Kb.trans (kbq:Kb b w _) hK2); clear hK2
       have hb2:b<w2.heap.size:=hS2.lt
       have HS2:=Hh hS2; clear hS2
       go_wp2_with fail
       refine ⟨rfl,?_⟩
       exact ⟨none,HP.out,kbq,rfl⟩
   · rw [decide_eq_false he] at hne
     rw [if_pos he] at hat3
     have HP:=Hh hat3; clear hat3 he
     go_enter Tryz.func381,Tryz.ntmps381
     go_wp2_with fail
     refine (HSG.out _ HS.out).mono ?_
     rintro e w1 ⟨rfl,hb1⟩
     obtain ⟨p1,rfl⟩:=gw_of_below hb1
     clear hb1
     go_wp2_with fail
     refine (take_some _ l b _ (HS.out.gw _)).mono ?_
     rintro e w2 ⟨rfl,hS2,hK2⟩
     have HK:=Hh (Kb.trans (kbq:Kb b w _) hK2); clear hK2
     have hb2:b<w2.heap.size:=hS2.lt
     have HS2:=Hh hS2; clear hS2
     go_wp2_with fail
     refine ⟨rfl,?_⟩
     exact ⟨none,HP.out,kbq,rfl⟩
set_option maxHeartbeats 4000000 in
set_option maxRecDepth 100000 in
theorem unary_step (l:List Tok) (ih:∀ l':List Tok,l'.length<l.length→UC l') (ho:OC l):UC l:=by
 intro b w hs hS
 have hb:b<w.heap.size:=hS.lt
 have hsg:=fun w hS=>psign_any l b w hS hs
 obtain ⟨N,hN⟩:∃ N,hdn l=N:=⟨_,rfl⟩
 have HSG:=Hh hsg; clear hsg
 have HS:=Hh hS; clear hS
 by_cases hU:N.toList=[45]∨N.toList=[43]∨N.toList=[126]
 · rcases l with _ | ⟨t,l⟩
   · exfalso
     have:N=⟨#[]⟩:=hN.symm
     subst this
     rw [ByteArray.toList_eq] at hU
     rcases hU with h | h | h<;>cases h
   have hu:exLang.isU t=true:=by
    show tU t=true
    unfold tU
    rw [show tnm t=N from hN]
    rcases hU with h | h | h<;>simp [h]
   have hnm:tnm t=N:=hN
   have ihl:=ih l (by simp)
   have hsl:=hs.tail
   have HU:=Hh hu; clear hu
   have HNM:=Hh hnm; clear hnm ih ho hs
   have HIH:=Hh ihl; clear ihl
   have HSL:=Hh hsl; clear hsl
   rw [hN] at HSG
   clear hN
   have htst:(N.toList == [45])=true∨((N.toList == [45])=false∧(N.toList == [43])=true)∨((N.toList == [45])=false∧(N.toList == [43])=false∧(N.toList == [126])=true):=by
    rcases hU with h | h | h<;>simp [h]
   clear hU
   rcases htst with h1 | ⟨h1,h2⟩ | ⟨h1,h2,h3⟩
   all_goals
    go_enter Tryz.func353,Tryz.ntmps353
    go_wp2_with fail
    refine (HSG.out _ HS.out).mono ?_
    rintro e w1 ⟨rfl,hb1⟩
    obtain ⟨p1,rfl⟩:=gw_of_below hb1
    clear hb1
    go_wp2_with fail
    refine (take_some _ l b _ (HS.out.gw _)).mono ?_
    rintro e w2 ⟨rfl,hS2,hK2⟩
    have HK:=Hh (Kb.trans (kbq:Kb b w _) hK2); clear hK2
    have hb2:b<w2.heap.size:=hS2.lt
    have HS2:=Hh hS2; clear hS2
    go_wp2_with fail
    refine (HIH.out b _ HSL.out HS2.out).mono ?_
    rintro e w3 ⟨res,hpu,hk3,hres⟩
    have HPU:=Hh hpu; clear hpu
    have HK3:=Hh (Kb.trans (kbq:Kb b w _) hk3); clear hk3 HK
    have HK:=HK3
    rcases res with _ | ⟨x,rest⟩
    · simp only at hres
      subst hres
      go_wp2_with fail
      refine ⟨rfl,?_⟩
      exact ⟨none,.un t l none HU.out HPU.out,kbq,rfl⟩
    · obtain ⟨v,rfl,hn3,hs3⟩:=hres
      obtain ⟨gv,rfl,hgv⟩:=hn3.ptr
      have hb3:b<w3.heap.size:=hs3.lt
      have HN3:=Hh hn3; clear hn3
      have HS3:=Hh hs3; clear hs3
      go_wp2_with fail
      go_ret
      refine ⟨some (.un N x,rest),?_,kbq,_,rfl,⟨w3.heap.size,_,by omega,rfl,alloc_at' _ _,NodeAt.below HN3.out (bl)⟩,HS3.out.alloc _⟩
      have h:=P.un (S:=exLang) t l _ HU.out HPU.out
      rw [←HNM.out]
      exact h
 · have hu:∀ t r,l=t::r→tU t=false:=fun t r h=>by
    subst h
    unfold tU
    rw [show tnm t=N from hN]
    by_cases h1:N.toList=[45]
    · exact absurd (.inl h1) hU
    · by_cases h2:N.toList=[43]
      · exact absurd (.inr (.inl h2)) hU
      · by_cases h3:N.toList=[126]
        · exact absurd (.inr (.inr h3)) hU
        · simp [h1,h2,h3]
   have n45:(N.toList == [45])=false:=by simp; intro h; exact hU (.inl h)
   have n43:(N.toList == [43])=false:=by simp; intro h; exact hU (.inr (.inl h))
   have n126:(N.toList == [126])=false:=by simp; intro h; exact hU (.inr (.inr h))
   have hoc:=fun w hS=>ho b w hs hS hu
   have HO:=Hh hoc; clear hoc
   rw [hN] at HSG
   clear hN ih hs hu hU ho
   go_enter Tryz.func353,Tryz.ntmps353
   go_wp2_with fail
   refine (HSG.out _ HS.out).mono ?_
   rintro e w1 ⟨rfl,hb1⟩
   obtain ⟨p1,rfl⟩:=gw_of_below hb1
   clear hb1
   go_wp2_with fail
   refine (HO.out _ (HS.out.gw _)).mono ?_
   rintro e w3 ⟨res,hpu,hk3,hres⟩
   have HPU:=Hh hpu; clear hpu
   have HK:=Hh (Kb.trans (kbq:Kb b w _) hk3); clear hk3
   rcases res with _ | ⟨x,rest⟩
   · simp only at hres
     subst hres
     go_wp2_with fail
     refine ⟨rfl,?_⟩
     exact ⟨none,HPU.out,kbq,rfl⟩
   · obtain ⟨v,rfl,hn3,hs3⟩:=hres
     have HN3:=Hh hn3; clear hn3
     have HS3:=Hh hs3; clear hs3
     go_wp2_with fail
     go_ret
     exact ⟨some (x,rest),HPU.out,kbq,v,rfl,HN3.out,HS3.out⟩
def leftAt (w:World) (b:Nat):Nat:=match w.cell? ⟨b,0,none⟩ with | some (.slice _ n _)=>n | _=>0
theorem StrAt.left {w:World} {b:Nat} {l:List Tok} (h:StrAt w b l):leftAt w b=l.length:=by
 obtain ⟨a,cap,h1,_⟩:=h
 unfold leftAt
 simp [World.cell?,h1]
theorem lvl_none:lvlS (hdn [])=0:=by
 show lvlL (ByteArray.toList ⟨#[]⟩)=0
 rw [ByteArray.toList_eq]; rfl
set_option maxHeartbeats 4000000 in
set_option maxRecDepth 100000 in
theorem binary_step (l:List Tok) (hu:UC l) (ih:∀ l':List Tok,l'.length<l.length→BC l'):BC l:=by
 intro lv b w hs hS
 have hb:b<w.heap.size:=hS.lt
 have HIH:=Hh ih; clear ih
 have hul:=fun w hS=>hu b w hs hS
 have HUL:=Hh hul; clear hul hu
 have HS:=Hh hS; clear hS
 have HSM:=Hh hs; clear hs
 go_enter Tryz.func316,Tryz.ntmps316
 go_wp2_with fail
 refine (HUL.out _ HS.out).mono ?_
 rintro e w1 ⟨res,hpu,hk1,hres⟩
 have HPU:=Hh hpu; clear hpu
 have HK:=Hh hk1; clear hk1
 rcases res with _ | ⟨x,r⟩
 · simp only at hres
   subst hres
   go_wp2_with fail
   refine ⟨rfl,?_⟩
   exact ⟨none,.binN lv l HPU.out,kbq,rfl⟩
 · obtain ⟨v,rfl,hn1,hs1⟩:=hres
   obtain ⟨gv,rfl,hgv⟩:=hn1.ptr
   have hends:=(P.ends HPU.out x r rfl).1 l rfl
   have hsm:Small r∧r.length<l.length:=by
    obtain ⟨l1,h,hne⟩:=hends
    have h2:=HSM.out
    rw [h] at h2
    refine ⟨h2.suffix,?_⟩
    rw [h,List.length_append]
    have:0<l1.length:=List.length_pos_iff.2 hne
    omega
   clear hends
   have HN1:=Hh hn1; clear hn1
   have HS1:=Hh hs1; clear hs1
   have HSM1:=Hh hsm; clear hsm
   have hstart:∀ res,P exLang (.L lv x r) res→P exLang (.B lv l) res:=fun res h=>.bin lv l r x res HPU.out h
   have HST:=Hh hstart; clear hstart
   go_wp2_with fail
   go_loopw [5,6,7] (fun v _ _ wr=>∃ (x:Ex) (r:List Tok) (gx:Nat),v=.pointer (some ⟨gx,0,none⟩)∧r.length<l.length∧Small r∧NodeAt 225 (b+1) wr x v∧StrAt wr b r∧Kb b w wr∧Hid (∀ res,P exLang (.L lv x r) res→P exLang (.B lv l) res)) (fun _ _ _ wr=>leftAt wr b)
   case atStart=>exact ⟨x,r,gv,rfl,HSM1.out.2,HSM1.out.1,HN1.out,HS1.out,HK.out,HST⟩
   case round =>
    obtain ⟨x,r,gx,rfl,hrl,hrs,hnr,hsr,hkr,HR⟩:=hrel
    clear HN1 HS1 HSM1 HST HPU HS HUL HK
    have hbr:b<wr.heap.size:=hsr.lt
    have hsg:=fun w hS=>psign_any r b w hS hrs
    obtain ⟨L,hL⟩:∃ L,lvlS (hdn r)=L:=⟨_,rfl⟩
    have hL6:L≤6:=by rw [←hL]; exact lvlL_le _
    have hlev:=fun w=>level_any (hdn r) w
    simp only [hL] at hlev
    have HSG:=Hh hsg; clear hsg
    have HLEV:=Hh hlev; clear hlev
    have HNR:=Hh hnr; clear hnr
    have HSR:=Hh hsr; clear hsr
    have HK:=Hh hkr; clear hkr
    obtain ⟨N,hN⟩:∃ N,hdn r=N:=⟨_,rfl⟩
    rw [hN] at HSG HLEV hL
    by_cases hstop:L=0∨L<lv
    · have hst:Stop exLang lv r:=fun t r' h=>by
       subst h
       have:exLang.lvl t=L:=by show lvlS (tnm t)=L; rw [show tnm t=N from hN]; exact hL
       omega
      have hp:=HR.out _ (.stop lv x r hst)
      have HP:=Hh hp; clear hp hst hL hN
      have htst:((L:Int) == 0)=true∨(((L:Int) == 0)=false∧(L:Int)<(lv:Int)):=by
       by_cases h0:L=0
       · left; subst h0; rfl
       · right; refine ⟨by simp; omega,by omega⟩
      rcases htst with h1 | ⟨h1,h2⟩
      all_goals
       go_wp2_with fail
       refine (HSG.out _ HSR.out).mono ?_
       rintro e w2 ⟨rfl,hb2⟩
       obtain ⟨p2,rfl⟩:=gw_of_below hb2
       clear hb2
       go_wp2_with fail
       refine (HLEV.out _).mono ?_
       rintro e w3 ⟨rfl,hb3⟩
       obtain ⟨p3,rfl⟩:=gw_of_below hb3
       clear hb3
       go_wp2_with fail
       go_ret
       exact ⟨some (x,r),HP.out,kbq,_,rfl,NodeAt.below (NodeAt.below HNR.out (below_gw _ _)) (below_gw _ _),(HSR.out.gw _).gw _⟩
    · have h1:((L:Int) == 0)=false:=by simp; omega
      have h2:¬ (L:Int)<(lv:Int):=by omega
      rcases r with _ | ⟨t,r⟩
      · exfalso
        apply hstop; left; rw [←hL,←hN]; exact lvl_none
      have hlvt:exLang.lvl t=L:=by show lvlS (tnm t)=L; rw [show tnm t=N from hN]; exact hL
      have hnm:tnm t=N:=hN
      have hbc:=HIH.out r (by simp at hrl; omega)
      have hrs2:=hrs.tail
      have hrl2:r.length+1<l.length:=by simpa using hrl
      have HBC:=Hh hbc; clear hbc
      have HLV:=Hh hlvt; clear hlvt
      have HNM:=Hh hnm; clear hnm hN hL hrs hrl
      have HRS:=Hh hrs2; clear hrs2
      go_wp2_with fail
      refine (HSG.out _ HSR.out).mono ?_
      rintro e w2 ⟨rfl,hb2⟩
      obtain ⟨p2,rfl⟩:=gw_of_below hb2
      clear hb2
      go_wp2_with fail
      refine (HLEV.out _).mono ?_
      rintro e w3 ⟨rfl,hb3⟩
      obtain ⟨p3,rfl⟩:=gw_of_below hb3
      clear hb3
      go_wp2_with fail
      refine (take_some _ r b _ ((HSR.out.gw _).gw _)).mono ?_
      rintro e w4 ⟨rfl,hS4,hK4⟩
      have hn4:=NodeAt.kb (NodeAt.below (NodeAt.below HNR.out (below_gw _ p2)) (below_gw _ p3)) hK4 (by omega)
      have HN4:=Hh hn4; clear hn4
      have HK4:=Hh (Kb.trans (kbq:Kb b w _) hK4); clear hK4 HK
      have HK:=HK4
      have hb4:b<w4.heap.size:=hS4.lt
      have HS4:=Hh hS4; clear hS4
      have hcall:Calls Tryz.prog 316 #[.pointer (some ⟨b,0,none⟩),.int .i64 ((L:Int)+1)] w4 (BRes (L+1) r b w4):=by
       have h:=HBC.out (L+1) b w4 HRS.out HS4.out
       rw [show (((L+1:Nat):Int))=(L:Int)+1 by omega] at h
       exact h
      have HCALL:=Hh hcall; clear hcall
      go_wp2_with fail
      refine HCALL.out.mono ?_
      rintro e w5 ⟨res,hpb,hk5,hres⟩
      have hpb':P exLang (.B (exLang.lvl t+1) r) res:=by rw [HLV.out]; exact hpb
      have HPB:=Hh hpb'; clear hpb hpb'
      have hn5:=NodeAt.kb HN4.out hk5 (by omega)
      have HN5:=Hh hn5; clear hn5
      have HK5:=Hh (Kb.trans (kbq:Kb b w _) hk5); clear hk5 HK HK4
      have HK:=HK5
      have hl0:exLang.lvl t≠0:=by rw [HLV.out]; omega
      have hl1:¬ exLang.lvl t<lv:=by rw [HLV.out]; omega
      have HL0:=Hh hl0; clear hl0
      have HL1:=Hh hl1; clear hl1
      rcases res with _ | ⟨y,r2⟩
      · simp only at hres
        subst hres
        go_wp2_with fail
        refine ⟨rfl,?_⟩
        exact ⟨none,HR.out _ (.stepN lv x t r HL0.out HL1.out HPB.out),kbq,rfl⟩
      · obtain ⟨vy,rfl,hny,hsy⟩:=hres
        obtain ⟨gy,rfl,hgy⟩:=hny.ptr
        have hends:=(P.ends HPB.out y r2 rfl).2 _ r rfl
        have hsm:Small r2∧r2.length<r.length:=by
         obtain ⟨l1,h,hne⟩:=hends
         have h2:=HRS.out
         rw [h] at h2
         refine ⟨h2.suffix,?_⟩
         rw [h,List.length_append]
         have:0<l1.length:=List.length_pos_iff.2 hne
         omega
        clear hends
        have hb5:b<w5.heap.size:=hsy.lt
        have HNY:=Hh hny; clear hny
        have HSY:=Hh hsy; clear hsy
        have HSM2:=Hh hsm; clear hsm
        have hnext:∀ res,P exLang (.L lv (.bin N x y) r2) res→P exLang (.B lv l) res:=fun res h=>by
         refine HR.out _ (.step lv x y t r r2 res HL0.out HL1.out HPB.out ?_)
         rw [show exLang.bin t x y=Ex.bin (tnm t) x y from rfl,HNM.out]
         exact h
        have HNX:=Hh hnext; clear hnext
        go_wp2_with fail
        go_roundw
        case rel=>exact ⟨.bin N x y,r2,_,rfl,by have:=HSM2.out.2; omega,HSM2.out.1,⟨w5.heap.size,_,_,by omega,rfl,alloc_at' _ _,NodeAt.below HN5.out (bl),NodeAt.below HNY.out (bl)⟩,HSY.out.alloc _,kbq,HNX⟩
        case measure=>rw [(HSY.out.alloc _).left,HSR.out.left]; have:=HSM2.out.2; simp; omega
theorem parser_any:∀ (n:Nat) (l:List Tok),l.length≤n→UC l∧BC l
 | _,l,_=>by
   have ih:∀ l':List Tok,l'.length<l.length→UC l'∧BC l':=fun l' h=>parser_any l'.length l' (Nat.le_refl _)
   have ho:=operand_step l (fun l' h=>(ih l' h).2)
   have hu:=unary_step l (fun l' h=>(ih l' h).1) ho
   exact ⟨hu,binary_step l hu (fun l' h=>(ih l' h).2)⟩
termination_by _ l=>l.length
theorem binary_any (l:List Tok):BC l:=(parser_any l.length l (Nat.le_refl _)).2
end Go.Proofs.YtkldoojonnkfgaaGreatDoor
