/- Joined texts: Given18, NodeCells, EqTok, LawASplits. -/
import Derived.Test.YtkldoojonnkfgaaGreatDoorA48
import Derived.Test.YtkldoojonnkfgaaGreatDoorA49
namespace Go.Proofs.YtkldoojonnkfgaaGreatDoor
open Go.RowKit Go.Sort
set_option maxHeartbeats 2000000 in
set_option maxRecDepth 100000 in
theorem given18_any (l:List Tok) (v:Value) (w:World) (hr:Row w v l.length (tokc l)) (hl:l.length≤1000000) :
 Calls Tryz.prog 19 #[v] w fun e w'=>∃ v',e=.returned v'∧Row w' v' l.length (tokc l)∧Below w.heap.size w w':=by
 obtain ⟨a,cap,rfl,hcap,hc⟩:=hr.tok
 have hl1:(l.length:Int)≤1000000:=by omega
 have hc1:(l.length:Int)≤(cap:Int):=by omega
 have HC:=Hh hc; clear hc hr
 obtain ⟨i0,hi,hz0,hz1,hz2⟩:=info_parts infoTokL
 go_enter Tryz.func19,Tryz.ntmps19
 go_wp2_with fail
 go_loopw [3,8] (fun v i wr=>∃ k:Nat,k≤l.length∧i=.int .i64 k∧wr.ownsRow w.heap.size 34 4 v (l.take k).length (tokc (l.take k))∧Below w.heap.size w wr) (fun _ i _=>l.length - (intOf i).toNat)
 case atStart=>exact ⟨0,Nat.zero_le _,rfl,World.ownsRow_nil _ _ _ _,Below.refl _ _⟩
 case round =>
  obtain ⟨k,hk,rfl,hown,hbel⟩:=hrel
  have HOWN:=Hh hown; clear hown
  have HBEL:=Hh hbel; clear hbel
  have hsz:w.heap.size≤wr.heap.size:=HBEL.out.size
  by_cases hlt:k<l.length
  · obtain ⟨t,ht⟩:∃ t,l[k]? = some t:=⟨_,List.getElem?_eq_getElem hlt⟩
    obtain ⟨g,o,rfl,hg,hcs⟩:=HC.out (by rintro rfl; simp at ht)
    obtain ⟨e0,e1,e2,e3⟩:=hcs k t ht
    have hb:=HBEL.out
    have f0:=(hb.cell (p:=⟨g,o+k * 4,none⟩) hg).trans e0
    have f1:=(hb.cell (p:=⟨g,o+k * 4+1,none⟩) hg).trans e1
    have f2:=(hb.cell (p:=⟨g,o+k * 4+2,none⟩) hg).trans e2
    have f3:=(hb.cell (p:=⟨g,o+k * 4+3,none⟩) hg).trans e3
    have hsnoc:l.take (k+1)=l.take k++[t]:=by rw [List.take_add_one,ht]; rfl
    have hlk:(l.take k).length=k:=by rw [List.length_take]; omega
    clear hcs e0 e1 e2 e3 hb
    have HS:=Hh hsnoc; clear hsnoc ht
    have HLK:=Hh hlk
    have hi0:(0:Int)≤(k:Int):=by omega
    have hi1:(k:Int)<(l.length:Int):=by omega
    have hgr:g<wr.heap.size:=by omega
    obtain ⟨tk,tt,tn,ta⟩:=t
    simp only at f0 f1 f2 f3
    rw [hlk] at HOWN
    clear hlk
    go_wp2_with (at_builtin; refine wpList_append_own _ rfl _ _ 28 rfl w.heap.size 34 i0 (.agg #[.int .i64 0,.string ⟨#[]⟩,.int .i64 0,.int .i64 0]) 4 40 Tryz.underlying28 hi hz0 hz1 hz2 rfl (by decide) _ _ _ rfl (owns_below' HOWN.out (bl)) _ 1 1 [.int .i64 tk,.string tt,.int .i64 tn,.int .i64 ta] rfl rfl ?d1 ?d2 ?d3 ?d4 ?d5 ?_)
    case d1 =>
     intro q u hq
     rw [addr_add]
     match q,hq with
     | 0,hq=>simp at hq; subst hq; simp [go_sem]
     | 1,hq=>simp at hq; subst hq; simp [go_sem]
     | 2,hq=>simp at hq; subst hq; simp [go_sem]
     | 3,hq=>simp at hq; subst hq; simp [go_sem]
    case d2=>first | exact ⟨rfl,rfl,rfl,rfl⟩ | (intro u hu; simp at hu; rcases hu with rfl | rfl | rfl | rfl<;>rfl) | rfl
    case d3=>unfold maxLen; omega
    case d4=>omega
    case d5=>(first | omega | (simp [go_sem]; done) | (simp [go_sem]; omega))
    intro v' w2 hown' hgrow _
    have hb':Below w.heap.size w w2:=(HBEL.out.trans (Below.mono (show Below wr.heap.size wr _ from bl) hsz)).grown hgrow (by (first | omega | (simp [go_sem]; done) | (simp [go_sem]; omega))) (by
     intro q hq
     have:=HOWN.out.2
     rcases this with ⟨h,_⟩ | ⟨g,cap,cur,h,hg,_⟩
     · rw [h] at hq; cases hq
     · rw [h] at hq; cases hq; exact hg)
    have HOWN3:=Hh hown'; clear hown'
    have HB':=Hh hb'; clear hb' hgrow
    go_wp2_with fail
    go_roundw
    case rel=>exact ⟨k+1,by omega,by go_num,by rw [HS.out,←tokc_one,List.length_append,HLK.out]; exact HOWN3.out,HB'.out⟩
    case measure=>simp [intOf]; omega
  · obtain rfl:k=l.length:=by omega
    have hrow:=Row.of_owns HOWN.out
    rw [List.take_length] at hrow
    have HROW:=Hh hrow; clear hrow
    go_wp2_with fail
    go_ret
    exact ⟨_,rfl,HROW.out,HBEL.out⟩
theorem cell_lt {w:World} {b o:Nat} {v:Value} (h:w.cell? ⟨b,o,none⟩=some v):b<w.heap.size:=by
 rcases Nat.lt_or_ge b w.heap.size with h1 | h1
 · exact h1
 · simp [World.cell?,Array.getElem?_eq_none h1] at h
set_option maxRecDepth 100000 in
theorem eqTok1 (k n off:Int) (s:ByteArray) (w:World):Calls Tryz.prog 22 #[.agg #[.int .i64 k,.string s,.int .i64 n,.int .i64 off],.agg #[.int .i64 k,.string s,.int .i64 n,.int .i64 off]] w fun e w'=>e=.returned (.bool true)∧Below w.heap.size w w':=by
 have hs:=bb_self s
 go_enter Tryz.func22,Tryz.ntmps22
 go_wp2_with fail
 go_ret
 refine ⟨?_,bl⟩
 simp
set_option maxHeartbeats 2000000 in
set_option maxRecDepth 100000 in
theorem eqTok_any (l:List Tok) (va vb:Value) (w:World) (hr:Row w va l.length (tokc l)) (hr2:Row w vb l.length (tokc l)) (hl:l.length≤1000000) :
 Calls Tryz.prog 21 #[va,vb,.func (.func 22) #[] #[]] w fun e w'=>e=.returned (.bool true)∧Below w.heap.size w w':=by
 obtain ⟨a,cap,rfl,hcap,hc⟩:=hr.tok
 obtain ⟨b,cap2,rfl,hcap2,hc2⟩:=hr2.tok
 have hl1:(l.length:Int)≤1000000:=by omega
 have hne:((l.length:Int) != (l.length:Int))=false:=by simp
 have HC:=Hh hc; have HC2:=Hh hc2; clear hc hr hc2 hr2
 go_enter Tryz.func21,Tryz.ntmps21
 go_wp2_with fail
 go_loopw [7,8,9,17] (fun _ _ _ i wr=>∃ k:Nat,k≤l.length∧i=.int .i64 k∧Below w.heap.size w wr) (fun _ _ _ i _=>l.length - (intOf i).toNat)
 case atStart=>exact ⟨0,Nat.zero_le _,rfl,Below.refl _ _⟩
 case round =>
  obtain ⟨k,hk,rfl,hbel⟩:=hrel
  have HBEL:=Hh hbel; clear hbel
  by_cases hlt:k<l.length
  · obtain ⟨t,ht⟩:∃ t,l[k]? = some t:=⟨_,List.getElem?_eq_getElem hlt⟩
    have hne0:l≠[]:=by rintro rfl; simp at ht
    obtain ⟨g,o,rfl,hg,hcs⟩:=HC.out hne0
    obtain ⟨e0,e1,e2,e3⟩:=hcs k t ht
    obtain ⟨g2,o2,rfl,hg2,hcs2⟩:=HC2.out hne0
    obtain ⟨d0,d1,d2,d3⟩:=hcs2 k t ht
    have hb:=HBEL.out
    have f0:=(hb.cell (p:=⟨g,o+k * 4,none⟩) hg).trans e0
    have f1:=(hb.cell (p:=⟨g,o+k * 4+1,none⟩) hg).trans e1
    have f2:=(hb.cell (p:=⟨g,o+k * 4+2,none⟩) hg).trans e2
    have f3:=(hb.cell (p:=⟨g,o+k * 4+3,none⟩) hg).trans e3
    have q0:=(hb.cell (p:=⟨g2,o2+k * 4,none⟩) hg2).trans d0
    have q1:=(hb.cell (p:=⟨g2,o2+k * 4+1,none⟩) hg2).trans d1
    have q2:=(hb.cell (p:=⟨g2,o2+k * 4+2,none⟩) hg2).trans d2
    have q3:=(hb.cell (p:=⟨g2,o2+k * 4+3,none⟩) hg2).trans d3
    clear hcs e0 e1 e2 e3 hb hcs2 d0 d1 d2 d3 hne0
    have hi0:(0:Int)≤(k:Int):=by omega
    have hi1:(k:Int)<(l.length:Int):=by omega
    have hgr:=cell_lt f0
    have hgr2:=cell_lt q0
    obtain ⟨tk,tt,tn,ta⟩:=t
    simp only at f0 f1 f2 f3 q0 q1 q2 q3
    go_wp2_with fail
    (with_reducible refine (eqTok1 _ _ _ _ _).mono ?_)
    rintro e w2 ⟨rfl,hb2⟩
    have hb3:Below w.heap.size w w2:=(HBEL.out.trans (Below.mono (show Below wr.heap.size wr _ from bl) HBEL.out.size)).trans (hb2.mono (by have:=HBEL.out.size; first | (simp [go_sem]; omega) | omega))
    have HB3:=Hh hb3
    clear hb2 hb3 ht
    go_wp2_with fail
    go_roundw
    case rel=>exact ⟨k+1,by omega,by go_num,HB3.out⟩
    case measure=>simp [intOf]; omega
  · obtain rfl:k=l.length:=by omega
    go_wp2_with fail
    go_ret
    exact ⟨rfl,HBEL.out⟩
theorem sum_snoc (ps:List (List Tok)) (j:Nat) (p:List Tok) (h:ps[j]? = some p):sumLen (ps.take (j+1))=sumLen (ps.take j)+p.length:=by
 rw [List.take_add_one,h]
 simp [sumLen]
set_option maxHeartbeats 4000000 in
set_option maxRecDepth 100000 in
theorem lawASplits_walk (s:ByteArray) (w:World) (hs:s.size≤maxLen) (hT:TabsA w):Calls Tryz.prog 4 #[.string s] w fun e w'=>e=.returned (.bool true)∧Below w.heap.size w w':=by
 have HT:=Hh hT; clear hT
 have hkn:=known18_any s w hs
 unfold KnRes8 at hkn
 rcases hk:knownP s with _ | l
 · rw [hk] at hkn
   simp only [Option.isSome_none] at hkn
   have HKN:=Hh hkn; clear hkn hk hs
   go_enter Tryz.func4,Tryz.ntmps4
   go_wp2_with fail
   (with_reducible refine HKN.out.mono ?_)
   rintro e w1 ⟨v,rfl,_,hb1⟩
   have HB1:=Hh hb1
   clear hb1
   go_wp2_with fail
   (with_reducible refine (alive18 _ (HT.out.below HB1.out)).mono ?_)
   rintro e w2 ⟨rfl,hb2⟩
   have HB2:=Hh (HB1.out.trans (hb2.mono HB1.out.size))
   clear hb2
   go_wp2_with fail
   go_ret
   exact ⟨rfl,HB2.out⟩
 · rw [hk] at hkn
   simp only [Option.isSome_some,Option.getD_some] at hkn
   obtain ⟨hok,hlen,_⟩:=knownP_ok hk
   have hgv:=fun v W hr=>given18_any l v W hr (by omega)
   have hsp:=fun v W hr=>split_any l v W hr (by omega)
   have hrs:=fun v W hr=>split18_any l v W hr (by omega)
   have hpl:∀ p∈splitP l,p.length≤1000000:=fun p hp=>by have:=split_lens hp; omega
   have hsum:max (((splitP l).length:Int) - 1) 0+sumLen (splitP l)=l.length∧(splitP l).length≤1025:=by
    by_cases h:l=[]
    · subst h; simp [splitP,sumLen]; decide
    · have h1:=splitP_sum h
      have h2:=split_count h
      have h3:0<(splitP l).length:=by unfold splitP; rw [if_neg h]; exact List.length_pos_iff.2 (splitGo_ne l 0 [])
      omega
   obtain ⟨ps,hps⟩:∃ ps,splitP l=ps:=⟨_,rfl⟩
   rw [hps] at hpl hsum
   simp only [hps] at hsp hrs
   have hcnt:(ps.length:Int)≤1025:=by omega
   have hsl:∀ j,j≤ps.length→sumLen (ps.take j)≤1024:=fun j _=>by
    have h1:sumLen (ps.take j)≤sumLen ps:=by
     conv=>rhs; rw [←List.take_append_drop j ps]
     unfold sumLen
     rw [List.map_append,List.sum_append]
     omega
    omega
   have HKN:=Hh hkn; have HGV:=Hh hgv; have HSP:=Hh hsp; have HRS:=Hh hrs; have HPL:=Hh hpl; have HSUM:=Hh hsum; have HSL:=Hh hsl
   have hll:(l.length:Int)≤1024:=by omega
   clear hkn hgv hsp hrs hpl hsum hk hs hok hlen hps hsl
   go_enter Tryz.func4,Tryz.ntmps4
   go_wp2_with fail
   (with_reducible refine HKN.out.mono ?_)
   rintro e w1 ⟨v,rfl,hr1,hb1⟩
   have HB1:=Hh hb1
   have HR1:=Hh hr1
   obtain ⟨a1,c1,rfl,hc1,_⟩:=hr1
   clear hb1
   go_wp2_with fail
   (with_reducible refine (HGV.out _ _ HR1.out).mono ?_)
   rintro e w2 ⟨v2,rfl,hr2,hb2⟩
   have HR2:=Hh hr2
   have HB2:=Hh (HB1.out.trans (hb2.mono HB1.out.size))
   have HR1b:=Hh (HR1.out.below hb2)
   clear hr2 hb2
   go_wp2_with fail
   (with_reducible refine (HSP.out _ _ HR2.out).mono ?_)
   rintro e w3 ⟨a3,n3,c3,rfl,hpr3,hb3⟩
   have HP3:=Hh hpr3
   have HB3:=Hh (HB2.out.trans (hb3.mono HB2.out.size))
   have HR1c:=Hh (HR1b.out.below hb3)
   clear hpr3 hb3
   go_wp2_with fail
   (with_reducible refine (HRS.out _ _ HR1c.out).mono ?_)
   rintro e w4 ⟨a4,n4,c4,rfl,hpr4,hb4⟩
   have HP4:=Hh hpr4
   obtain ⟨us,hus,hrw,hrx⟩:=HP3.out
   obtain ⟨us2,hus2,hrw2,hrx2⟩:=hpr4
   obtain ⟨a3',c3',hv3,hc3,hx3⟩:=hrw.below hb4
   cases hv3
   obtain ⟨a4',c4',hv4,hc4,hx4⟩:=hrw2
   cases hv4
   have HX3:=Hh hx3; have HX4:=Hh hx4
   have HRX:=Hh (fun i p u h1 h2=>(hrx i p u h1 h2).below hb4)
   have HRX2:=Hh hrx2
   have HB4:=Hh (HB3.out.trans (hb4.mono HB3.out.size))
   have hne:((ps.length:Int) != (ps.length:Int))=false:=by simp
   have hi3:(ps.length:Int)≤(c3:Int):=by omega
   have hi4:(ps.length:Int)≤(c4:Int):=by omega
   clear hb4 hx3 hx4 hrx hrx2 hrw
   go_wp2_with fail
   obtain ⟨M,hM⟩:∃ M,max ((ps.length:Int) - 1) 0=M:=⟨_,rfl⟩
   have hM0:0≤M:=by omega
   have hM1:M≤1025:=by omega
   rw [hM]
   have HM:=Hh hM; clear hM
   go_loopw [7,8,9,34] (fun n _ _ i wr=>∃ j:Nat,j≤ps.length∧i=.int .i64 j∧n=.int .i64 (M+sumLen (ps.take j))∧Hid (Below w4.heap.size w4 wr)) (fun _ _ _ i _=>ps.length - (intOf i).toNat)
   case atStart=>exact ⟨0,Nat.zero_le _,rfl,by simp [sumLen],Hh (Below.refl _ _)⟩
   case round =>
    obtain ⟨j,hj,rfl,rfl,HBR⟩:=hrel
    have hsj:=HSL.out j hj
    by_cases hlt:j<ps.length
    · obtain ⟨p,hp⟩:∃ p,ps[j]? = some p:=⟨_,List.getElem?_eq_getElem hlt⟩
      obtain ⟨u,hu⟩:∃ u,us[j]? = some u:=⟨_,List.getElem?_eq_getElem (by omega)⟩
      obtain ⟨u2,hu2⟩:∃ u,us2[j]? = some u:=⟨_,List.getElem?_eq_getElem (by omega)⟩
      have hpl:=HPL.out p (List.mem_of_getElem? hp)
      obtain ⟨g,o,rfl,hg,hcs⟩:=HX3.out (by rintro rfl; simp at hu)
      obtain ⟨g2,o2,rfl,hg2,hcs2⟩:=HX4.out (by rintro rfl; simp at hu2)
      have hb:=HBR.out
      have k0:=(hb.cell (p:=⟨g,o+j,none⟩) hg).trans ((hcs j (by omega)).trans hu)
      have k1:=(hb.cell (p:=⟨g2,o2+j,none⟩) hg2).trans ((hcs2 j (by omega)).trans hu2)
      have hr1:=(HRX.out j p u hp hu).below hb
      have hr2:=(HRX2.out j p u2 hp hu2).below hb
      have hsn:=sum_snoc ps j p hp
      have hsj2:=HSL.out (j+1) (by omega)
      rw [hsn] at hsj2
      have hi0:(0:Int)≤(j:Int):=by omega
      have hi1:(j:Int)<(ps.length:Int):=by omega
      have HRA:=Hh hr1; have HRB:=Hh hr2; have HSN:=Hh hsn
      obtain ⟨au,cu,rfl,_,_⟩:=hr1
      obtain ⟨av,cv,rfl,_,_⟩:=hr2
      have hlp:(p.length:Int)≤1024:=by omega
      clear hb hcs hcs2 hu hu2 hp hsn
      go_wp2_with fail
      (with_reducible refine (eqTok_any p _ _ _ HRA.out HRB.out hpl).mono ?_)
      rintro e w5 ⟨rfl,hb5⟩
      have HB5:=Hh (HBR.out.trans (hb5.mono HBR.out.size))
      clear hb5 k0 k1
      go_wp2_with fail
      go_roundw
      case rel=>exact ⟨j+1,by omega,by go_num,by rw [HSN.out]; go_num,HB5⟩
      case measure=>simp [intOf]; omega
    · obtain rfl:j=ps.length:=by omega
      rw [List.take_length]
      have hfin:M+(sumLen ps:Int)=(l.length:Int):=by have:=HSUM.out.1; have:=HM.out; omega
      have heq:((M+(sumLen ps:Int)) == (l.length:Int))=true:=by rw [hfin]; simp
      have hbw:=HB4.out.trans (HBR.out.mono HB4.out.size)
      have HBW:=Hh hbw
      clear hbw hfin
      go_wp2_with fail
      (with_reducible refine (alive18 _ (HT.out.below HBW.out)).mono ?_)
      rintro e w5 ⟨rfl,hb5⟩
      have HB5:=Hh (HBW.out.trans (hb5.mono HBW.out.size))
      clear hb5
      go_wp2_with fail
      go_ret
      exact ⟨rfl,HB5.out⟩
end Go.Proofs.YtkldoojonnkfgaaGreatDoor
