/- Joined texts: Split18. -/
import Derived.Test.YtkldoojonnkfgaaGreatDoorA41
namespace Go.Proofs.YtkldoojonnkfgaaGreatDoor
open Go.RowKit Go.Sort
theorem Tryz.infoTokRR:(Tryz.prog.info? 45).map (fun i=>(i.zero,i.size,i.bytes))=some (some (.slice none 0 0),1,24):=by kernel_rfl
set_option maxHeartbeats 1000000 in
theorem sign18_any (k:Int) (s:ByteArray) (n off:Int) (c:UInt8) (w:World):Calls Tryz.prog 58 #[.agg #[.int .i64 k,.string s,.int .i64 n,.int .i64 off],.string ⟨#[c]⟩] w fun e w'=>e=.returned (.bool (signIs ⟨k,s,n,off⟩ [c]))∧Below w.heap.size w w':=by
 have hS:signIs ⟨k,s,n,off⟩ [c]=(decide (k=4) && (s.toList == (⟨#[c]⟩:ByteArray).toList)):=by
  unfold signIs
  have h2:(⟨#[c]⟩:ByteArray).toList=[c]:=tl1 [c]
  rw [h2]
 rw [hS]
 obtain ⟨q,hq⟩:∃ q:ByteArray,(⟨#[c]⟩:ByteArray)=q:=⟨_,rfl⟩
 rw [hq]
 clear hq hS
 by_cases h4:k=4
 · subst h4
   rw [decide_eq_true rfl,Bool.true_and]
   go_enter Tryz.func58,Tryz.ntmps58
   go_wp2_with fail
   go_ret
   exact ⟨rfl,bl⟩
 · have h4b:(k == 4)=false:=by simpa using h4
   rw [decide_eq_false h4,Bool.false_and]
   clear h4
   go_enter Tryz.func58,Tryz.ntmps58
   go_wp2_with fail
   go_ret
   exact ⟨rfl,bl⟩
theorem sign_one {t:Tok} {c d:UInt8} (h:signIs t [c]=true) (hne:c≠d):signIs t [d]=false:=by
 unfold signIs at h ⊢
 simp only [Bool.and_eq_true,decide_eq_true_eq,beq_iff_eq] at h
 rw [h.2]
 simp [hne]
theorem split_next {l:List Tok} {j fr:Nat} {t:Tok} (hj:j≤l.length) (ht:l[j]? = some t) (hf:fr≤j) (hc:(splitSt (l.take j)).2.2=(l.take j).drop fr) :
 splitSt (l.take (j+1))=if signIs t [44]=true∧(splitSt (l.take j)).1+deeperP t≤0 then ((splitSt (l.take j)).1+deeperP t,(splitSt (l.take j)).2.1++[(l.take j).drop fr],(l.take (j+1)).drop (j+1)) else ((splitSt (l.take j)).1+deeperP t,(splitSt (l.take j)).2.1,(l.take (j+1)).drop fr):=by
 have htk:l.take (j+1)=l.take j++[t]:=by rw [List.take_add_one,ht]; rfl
 rw [htk,splitSt_snoc,hc]
 split
 · have e:(l.take j++[t]).drop (j+1)=[]:=List.drop_eq_nil_of_le (by simp; omega)
   rw [e]
 · rw [List.drop_append_of_le_length (by simp; omega)]
theorem t165_2 {p:Prop} (h:p:=by
 rcases Nat.eq_zero_or_pos (i - us.length) with h | h
 · exact h
 · rw [List.getElem?_eq_none (by simp; omega)] at hu; cases hu):p:=h
theorem t165_0 {p:Prop} (h:p:=by
 intro i p u hp hu
 rcases Nat.lt_or_ge i us.length with hi' | hi'
 · rw [List.getElem?_append_left (by omega)] at hp
   rw [List.getElem?_append_left hi'] at hu
   exact (h4 i p u hp hu).below hb5
 · rw [List.getElem?_append_right (by omega)] at hp
   rw [List.getElem?_append_right hi'] at hu
   have h0:i - us.length=0:=by
    exact t165_2
   rw [h0] at hu
   rw [show i - (splitSt l).2.1.length=0 by omega] at hp
   simp at hu hp
   subst hu hp
   exact hpart.below hb5):p:=h
theorem t165_1 {p:Prop} (h:p:=by
 have hrow:=(WRow.of_owns hown5).row
 have e:((splitSt l).2.1++[(splitSt l).2.2]).length=us.length+1:=by simp [h3]
 rw [e]
 exact hrow):p:=h
set_option maxRecDepth 100000 in
set_option maxHeartbeats 4000000 in
theorem split18_any (l:List Tok) (v:Value) (w:World) (hr:Row w v l.length (tokc l)) (hl:l.length≤100000) :
 Calls Tryz.prog 20 #[v] w fun e w'=>∃ a n c,e=.returned (.slice a n c)∧PartsRow w' (.slice a n c) (splitP l)∧Below w.heap.size w w':=by
 obtain ⟨i0,hi,hz0,hz1,hz2⟩:=info_parts Tryz.infoTokRR
 by_cases hnil:l=[]
 · subst hnil
   obtain ⟨a,c,rfl,hc,_⟩:=hr
   go_enter Tryz.func20,Tryz.ntmps20
   go_wp2_with fail
   go_ret
   exact ⟨none,0,0,rfl,⟨[],rfl,(WRow.nil _ 0).row,fun i p u hp=>by simp [splitP] at hp⟩,bl⟩
 · have hpos:0<l.length:=List.length_pos_iff.2 hnil
   have hne0:((l.length:Int) == 0)=false:=by rw [beq_eq_false_iff_ne]; omega
   have HST:=Hh (splitP_st hnil)
   obtain ⟨g,o,c,rfl,hcap,hg,htok,hsub⟩:=Row.tok2 hr hnil
   have HTOK:=Hh htok; have HSUB:=Hh hsub
   have hcc:(l.length:Int)≤(c:Int):=by omega
   clear htok hsub hnil hr
   go_enter Tryz.func20,Tryz.ntmps20
   go_wp2_with fail
   go_loopw [3,4,5,6] (fun out d f i wr=>∃ (j fr:Nat) (dd:Int) (us:List Value),j≤l.length∧fr≤j∧-(j:Int)≤dd∧dd≤j∧i=.int .i64 j∧f=.int .i64 fr∧d=.int .i64 dd∧us.length≤j∧Hid (dd=(splitSt (l.take j)).1∧(splitSt (l.take j)).2.2=(l.take j).drop fr∧us.length=(splitSt (l.take j)).2.1.length∧(∀ (i:Nat) (p:List Tok) (u:Value),(splitSt (l.take j)).2.1[i]? = some p→us[i]? = some u→Row w u p.length (tokc p))∧∀ u∈us,u.oneCell'=true)∧Hid (wr.ownsRow w.heap.size 45 1 out us.length us)∧Hid (Below w.heap.size w wr)) (fun _ _ _ i _=>l.length - (intOf i).toNat)
   case atStart=>exact ⟨0,0,0,[],Nat.zero_le _,Nat.le_refl _,by omega,by omega,rfl,rfl,rfl,Nat.le_refl _,Hh ⟨rfl,by simp [splitSt],rfl,by simp [splitSt],by simp⟩,Hh (World.ownsRow_nil _ _ _ _),Hh (bl)⟩
   case round =>
    obtain ⟨j,fr,dd,us,hj,hf,hd1,hd2,rfl,rfl,rfl,hus,HD,HO,HB⟩:=hrel
    obtain ⟨ao,co,rfl⟩:=owns_slice HO.out
    by_cases hlt:j<l.length
    · obtain ⟨t,ht⟩:∃ t,l[j]? = some t:=⟨_,List.getElem?_eq_getElem hlt⟩
      obtain ⟨q0,q1,q2,q3⟩:=HTOK.out j t ht
      have hb:=HB.out
      have k0:=(hb.cell (p:=⟨g,o+j * 4,none⟩) hg).trans q0
      have k1:=(hb.cell (p:=⟨g,o+j * 4+1,none⟩) hg).trans q1
      have k2:=(hb.cell (p:=⟨g,o+j * 4+2,none⟩) hg).trans q2
      have k3:=(hb.cell (p:=⟨g,o+j * 4+3,none⟩) hg).trans q3
      have hgr:g<wr.heap.size:=Nat.lt_of_lt_of_le hg hb.size
      have hnx:=split_next (Nat.le_of_lt hlt) ht hf HD.out.2.1
      have hs40:=fun W=>sign18_any t.kind t.text t.n t.off 40 W
      have hs41:=fun W=>sign18_any t.kind t.text t.n t.off 41 W
      have hs44:=fun W=>sign18_any t.kind t.text t.n t.off 44 W
      have hx1:=fun h=>sign_one (t:=t) (c:=40) (d:=41) h (by decide)
      have hx4:=fun h=>sign_one (t:=t) (c:=40) (d:=44) h (by decide)
      have hx5:=fun h=>sign_one (t:=t) (c:=41) (d:=44) h (by decide)
      have hdp:deeperP t=if signIs t [40]=true then 1 else if signIs t [41]=true then -1 else 0:=rfl
      have hi0:(0:Int)≤(j:Int):=by omega
      have hi1:(j:Int)<(l.length:Int):=by omega
      obtain ⟨tk,tt,tn,tf⟩:=t
      dsimp only at k0 k1 k2 k3 hs40 hs41 hs44
      obtain ⟨b40,h40⟩:∃ b,signIs ⟨tk,tt,tn,tf⟩ [40]=b:=⟨_,rfl⟩
      obtain ⟨b41,h41⟩:∃ b,signIs ⟨tk,tt,tn,tf⟩ [41]=b:=⟨_,rfl⟩
      obtain ⟨b44,h44⟩:∃ b,signIs ⟨tk,tt,tn,tf⟩ [44]=b:=⟨_,rfl⟩
      rw [h40] at hs40 hx1 hx4 hdp
      rw [h41] at hs41 hx1 hx5 hdp
      rw [h44] at hs44 hx4 hx5 hnx
      have HX4:=Hh hx4; have HX5:=Hh hx5; clear hx4 hx5
      rw [←HD.out.1] at hnx
      obtain ⟨D,hD⟩:∃ D,deeperP ⟨tk,tt,tn,tf⟩=D:=⟨_,rfl⟩
      rw [hD] at hdp hnx
      have HS40:=Hh hs40; have HS41:=Hh hs41; have HS44:=Hh hs44
      have HNX:=Hh hnx
      clear hs40 hs41 hs44 hnx q0 q1 q2 q3 ht h40 h41 h44 hD hb
      by_cases hneg:b44=true∧dd+D≤0
      · have hb40:b40=false:=by
         cases b40 with
         | false=>rfl
         | true=>exact absurd (HX4.out rfl) (by rw [hneg.1]; decide)
        have hb41:b41=false:=by
         cases b41 with
         | false=>rfl
         | true=>exact absurd (HX5.out rfl) (by rw [hneg.1]; decide)
        subst hb40 hb41
        have hD2:D=0:=hdp
        clear hdp hx1
        subst hD2
        obtain ⟨rfl,hle⟩:=hneg
        have hle2:dd≤0:=by omega
        have hn:=HNX.out
        rw [if_pos ⟨rfl,hle⟩] at hn
        have HN:=Hh hn; clear hn HNX hle
        go_wp2_with fail
        (with_reducible refine (HS40.out _).mono ?_)
        rintro e w2 ⟨rfl,hb2⟩
        have n0:=(hb2.cell (p:=⟨g,o+j * 4,none⟩) hgr).trans k0
        have n1:=(hb2.cell (p:=⟨g,o+j * 4+1,none⟩) hgr).trans k1
        have n2:=(hb2.cell (p:=⟨g,o+j * 4+2,none⟩) hgr).trans k2
        have n3:=(hb2.cell (p:=⟨g,o+j * 4+3,none⟩) hgr).trans k3
        have hg2:=Nat.lt_of_lt_of_le hgr hb2.size
        have HB2:=Hh hb2
        clear k0 k1 k2 k3 hb2
        go_wp2_with fail
        (with_reducible refine (HS41.out _).mono ?_)
        rintro e w3 ⟨rfl,hb3⟩
        have m0:=(hb3.cell (p:=⟨g,o+j * 4,none⟩) hg2).trans n0
        have m1:=(hb3.cell (p:=⟨g,o+j * 4+1,none⟩) hg2).trans n1
        have m2:=(hb3.cell (p:=⟨g,o+j * 4+2,none⟩) hg2).trans n2
        have m3:=(hb3.cell (p:=⟨g,o+j * 4+3,none⟩) hg2).trans n3
        have HB3:=Hh (HB2.out.trans (hb3.mono HB2.out.size))
        clear n0 n1 n2 n3 hb3
        go_wp2_with fail
        (with_reducible refine (HS44.out _).mono ?_)
        rintro e w4 ⟨rfl,hb4⟩
        have HB4:=Hh (HB3.out.trans (hb4.mono HB3.out.size))
        clear m0 m1 m2 m3 hb4
        go_wp2_with (at_builtin; refine wpList_append_own _ rfl _ _ 51 rfl w.heap.size 45 i0 (.slice none 0 0) 1 24 Tryz.underlying51 hi hz0 hz1 hz2 rfl (by decide) _ _ _ rfl ((owns_below HO.out HB4.out).alloc _) ⟨w4.heap.size,0,none⟩ 1 1 [.slice (some ⟨g,o+fr * 4,none⟩) (j - fr) (c - fr)] rfl rfl ?c1 ?c2 ?c3 ?c4 ?c5 ?_)
        case c1=>exact cell_one_new _ _ _
        case c2=>intro u hu; simp at hu; subst hu; rfl
        case c3=>unfold maxLen; omega
        case c4=>omega
        case c5=>rw [World.size_alloc]; have:=HB.out.size; have:=HB4.out.size; omega
        intro v5 w5 hown5 hgrow5 _
        have hal:Below w4.heap.size w4 (w4.alloc (.cells #[.slice (some ⟨g,o+fr * 4,none⟩) (j - fr) (c - fr)] 45)):=(Below.refl _ _).alloc (Nat.le_refl _) _
        have hb5:Below w.heap.size w w5:=((HB.out.trans (HB4.out.mono HB.out.size)).trans (hal.mono (HB.out.trans (HB4.out.mono HB.out.size)).size)).grown hgrow5 (by rw [World.size_alloc]; have:=HB.out.size; have:=HB4.out.size; omega) (fun k hk=>(HO.out.lt k hk).1)
        have hpart:Row w (.slice (some ⟨g,o+fr * 4,none⟩) (j - fr) (c - fr)) ((l.take j).drop fr).length (tokc ((l.take j).drop fr)):=HSUB.out fr j (some ⟨g,o+fr * 4,none⟩) (c - fr) hf hj (fun _=>rfl) (by omega)
        have HOWN5:=Hh hown5; have HB5:=Hh hb5; have HPART:=Hh hpart
        clear hal hb5 hown5 hgrow5 hpart
        go_wp2_with fail
        go_roundw
        case rel =>
         refine ⟨j+1,j+1,dd,us++[.slice (some ⟨g,o+fr * 4,none⟩) (j - fr) (c - fr)],by omega,by omega,by omega,by omega,by go_num,by go_num,rfl,by simp; omega,Hh ⟨by rw [HN.out]; try first | rfl | (dsimp only; omega),by rw [HN.out],by rw [HN.out]; simp [HD.out.2.2.1],?_,?_⟩,Hh (by rw [List.length_append]; exact HOWN5.out),HB5⟩
         · rw [HN.out]
           intro i p u hp hu
           have hlen:=HD.out.2.2.1
           rcases Nat.lt_or_ge i us.length with hi' | hi'
           · rw [List.getElem?_append_left (by omega)] at hp
             rw [List.getElem?_append_left hi'] at hu
             exact HD.out.2.2.2.1 i p u hp hu
           · dsimp only at hp
             rw [List.getElem?_append_right (by omega)] at hp
             rw [List.getElem?_append_right hi'] at hu
             have h0:i - us.length=0:=by
              exact t165_2
             rw [h0] at hu
             rw [show i - (splitSt (l.take j)).2.1.length=0 by omega] at hp
             simp at hu hp
             subst hu hp
             simpa using HPART.out
         · intro u hu
           rcases List.mem_append.1 hu with h | h
           · exact HD.out.2.2.2.2 u h
           · simp at h; subst h; rfl
        case measure=>simp [intOf]; omega
      · have HNEG:=Hh hneg
        clear hneg
        cases b40 with
        | true =>
          obtain rfl:b41=false:=hx1 rfl
          have hb44:b44=false:=by
           cases b44 with
           | false=>rfl
           | true=>exact absurd (HX4.out rfl) (by decide)
          subst hb44
          have hD2:D=1:=hdp
          clear hdp hx1
          subst hD2
          have hn:=HNX.out
          rw [if_neg (fun h=>absurd h.1 (by decide))] at hn
          have HN:=Hh hn; clear hn HNX
          go_wp2_with fail
          (with_reducible refine (HS40.out _).mono ?_)
          rintro e w2 ⟨rfl,hb2⟩
          have n0:=(hb2.cell (p:=⟨g,o+j * 4,none⟩) hgr).trans k0
          have n1:=(hb2.cell (p:=⟨g,o+j * 4+1,none⟩) hgr).trans k1
          have n2:=(hb2.cell (p:=⟨g,o+j * 4+2,none⟩) hgr).trans k2
          have n3:=(hb2.cell (p:=⟨g,o+j * 4+3,none⟩) hgr).trans k3
          have hg2:=Nat.lt_of_lt_of_le hgr hb2.size
          have HB2:=Hh hb2
          clear k0 k1 k2 k3 hb2
          go_wp2_with fail
          (with_reducible refine (HS41.out _).mono ?_)
          rintro e w3 ⟨rfl,hb3⟩
          have m0:=(hb3.cell (p:=⟨g,o+j * 4,none⟩) hg2).trans n0
          have m1:=(hb3.cell (p:=⟨g,o+j * 4+1,none⟩) hg2).trans n1
          have m2:=(hb3.cell (p:=⟨g,o+j * 4+2,none⟩) hg2).trans n2
          have m3:=(hb3.cell (p:=⟨g,o+j * 4+3,none⟩) hg2).trans n3
          have HB3:=Hh (HB2.out.trans (hb3.mono HB2.out.size))
          clear n0 n1 n2 n3 hb3
          go_wp2_with fail
          (with_reducible refine (HS44.out _).mono ?_)
          rintro e w4 ⟨rfl,hb4⟩
          have HB4:=Hh (HB3.out.trans (hb4.mono HB3.out.size))
          clear m0 m1 m2 m3 hb4
          go_wp2_with fail
          go_roundw
          case rel=>exact ⟨j+1,fr,dd+1,us,by omega,by omega,by omega,by omega,by go_num,rfl,by first | rfl | go_num,by omega,Hh ⟨by rw [HN.out]; try first | rfl | (dsimp only; omega),by rw [HN.out],by rw [HN.out]; exact HD.out.2.2.1,by rw [HN.out]; exact HD.out.2.2.2.1,HD.out.2.2.2.2⟩,Hh (owns_below HO.out HB4.out),Hh (HB.out.trans (HB4.out.mono HB.out.size))⟩
          case measure=>simp [intOf]; omega
        | false =>
          cases b41 with
          | true =>
            have hb44:b44=false:=by
             cases b44 with
             | false=>rfl
             | true=>exact absurd (HX5.out rfl) (by decide)
            subst hb44
            have hD2:D=-1:=hdp
            clear hdp hx1
            subst hD2
            have hn:=HNX.out
            rw [if_neg (fun h=>absurd h.1 (by decide))] at hn
            have HN:=Hh hn; clear hn HNX
            go_wp2_with fail
            (with_reducible refine (HS40.out _).mono ?_)
            rintro e w2 ⟨rfl,hb2⟩
            have n0:=(hb2.cell (p:=⟨g,o+j * 4,none⟩) hgr).trans k0
            have n1:=(hb2.cell (p:=⟨g,o+j * 4+1,none⟩) hgr).trans k1
            have n2:=(hb2.cell (p:=⟨g,o+j * 4+2,none⟩) hgr).trans k2
            have n3:=(hb2.cell (p:=⟨g,o+j * 4+3,none⟩) hgr).trans k3
            have hg2:=Nat.lt_of_lt_of_le hgr hb2.size
            have HB2:=Hh hb2
            clear k0 k1 k2 k3 hb2
            go_wp2_with fail
            (with_reducible refine (HS41.out _).mono ?_)
            rintro e w3 ⟨rfl,hb3⟩
            have m0:=(hb3.cell (p:=⟨g,o+j * 4,none⟩) hg2).trans n0
            have m1:=(hb3.cell (p:=⟨g,o+j * 4+1,none⟩) hg2).trans n1
            have m2:=(hb3.cell (p:=⟨g,o+j * 4+2,none⟩) hg2).trans n2
            have m3:=(hb3.cell (p:=⟨g,o+j * 4+3,none⟩) hg2).trans n3
            have HB3:=Hh (HB2.out.trans (hb3.mono HB2.out.size))
            clear n0 n1 n2 n3 hb3
            go_wp2_with fail
            (with_reducible refine (HS44.out _).mono ?_)
            rintro e w4 ⟨rfl,hb4⟩
            have HB4:=Hh (HB3.out.trans (hb4.mono HB3.out.size))
            clear m0 m1 m2 m3 hb4
            go_wp2_with fail
            go_roundw
            case rel=>exact ⟨j+1,fr,dd - 1,us,by omega,by omega,by omega,by omega,by go_num,rfl,by first | rfl | go_num,by omega,Hh ⟨by rw [HN.out]; try first | rfl | (dsimp only; omega),by rw [HN.out],by rw [HN.out]; exact HD.out.2.2.1,by rw [HN.out]; exact HD.out.2.2.2.1,HD.out.2.2.2.2⟩,Hh (owns_below HO.out HB4.out),Hh (HB.out.trans (HB4.out.mono HB.out.size))⟩
            case measure=>simp [intOf]; omega
          | false =>
            have hD2:D=0:=hdp
            clear hdp hx1
            subst hD2
            have hn:=HNX.out
            rw [if_neg HNEG.out] at hn
            have HN:=Hh hn; clear hn HNX
            cases b44 with
            | false =>
              go_wp2_with fail
              (with_reducible refine (HS40.out _).mono ?_)
              rintro e w2 ⟨rfl,hb2⟩
              have n0:=(hb2.cell (p:=⟨g,o+j * 4,none⟩) hgr).trans k0
              have n1:=(hb2.cell (p:=⟨g,o+j * 4+1,none⟩) hgr).trans k1
              have n2:=(hb2.cell (p:=⟨g,o+j * 4+2,none⟩) hgr).trans k2
              have n3:=(hb2.cell (p:=⟨g,o+j * 4+3,none⟩) hgr).trans k3
              have hg2:=Nat.lt_of_lt_of_le hgr hb2.size
              have HB2:=Hh hb2
              clear k0 k1 k2 k3 hb2
              go_wp2_with fail
              (with_reducible refine (HS41.out _).mono ?_)
              rintro e w3 ⟨rfl,hb3⟩
              have m0:=(hb3.cell (p:=⟨g,o+j * 4,none⟩) hg2).trans n0
              have m1:=(hb3.cell (p:=⟨g,o+j * 4+1,none⟩) hg2).trans n1
              have m2:=(hb3.cell (p:=⟨g,o+j * 4+2,none⟩) hg2).trans n2
              have m3:=(hb3.cell (p:=⟨g,o+j * 4+3,none⟩) hg2).trans n3
              have HB3:=Hh (HB2.out.trans (hb3.mono HB2.out.size))
              clear n0 n1 n2 n3 hb3
              go_wp2_with fail
              (with_reducible refine (HS44.out _).mono ?_)
              rintro e w4 ⟨rfl,hb4⟩
              have HB4:=Hh (HB3.out.trans (hb4.mono HB3.out.size))
              clear m0 m1 m2 m3 hb4
              go_wp2_with fail
              go_roundw
              case rel=>exact ⟨j+1,fr,dd,us,by omega,by omega,by omega,by omega,by go_num,rfl,by first | rfl | go_num,by omega,Hh ⟨by rw [HN.out]; try first | rfl | (dsimp only; omega),by rw [HN.out],by rw [HN.out]; exact HD.out.2.2.1,by rw [HN.out]; exact HD.out.2.2.2.1,HD.out.2.2.2.2⟩,Hh (owns_below HO.out HB4.out),Hh (HB.out.trans (HB4.out.mono HB.out.size))⟩
              case measure=>simp [intOf]; omega
            | true =>
              have hgt:¬ dd≤0:=fun h=>HNEG.out ⟨rfl,by omega⟩
              go_wp2_with fail
              (with_reducible refine (HS40.out _).mono ?_)
              rintro e w2 ⟨rfl,hb2⟩
              have n0:=(hb2.cell (p:=⟨g,o+j * 4,none⟩) hgr).trans k0
              have n1:=(hb2.cell (p:=⟨g,o+j * 4+1,none⟩) hgr).trans k1
              have n2:=(hb2.cell (p:=⟨g,o+j * 4+2,none⟩) hgr).trans k2
              have n3:=(hb2.cell (p:=⟨g,o+j * 4+3,none⟩) hgr).trans k3
              have hg2:=Nat.lt_of_lt_of_le hgr hb2.size
              have HB2:=Hh hb2
              clear k0 k1 k2 k3 hb2
              go_wp2_with fail
              (with_reducible refine (HS41.out _).mono ?_)
              rintro e w3 ⟨rfl,hb3⟩
              have m0:=(hb3.cell (p:=⟨g,o+j * 4,none⟩) hg2).trans n0
              have m1:=(hb3.cell (p:=⟨g,o+j * 4+1,none⟩) hg2).trans n1
              have m2:=(hb3.cell (p:=⟨g,o+j * 4+2,none⟩) hg2).trans n2
              have m3:=(hb3.cell (p:=⟨g,o+j * 4+3,none⟩) hg2).trans n3
              have HB3:=Hh (HB2.out.trans (hb3.mono HB2.out.size))
              clear n0 n1 n2 n3 hb3
              go_wp2_with fail
              (with_reducible refine (HS44.out _).mono ?_)
              rintro e w4 ⟨rfl,hb4⟩
              have HB4:=Hh (HB3.out.trans (hb4.mono HB3.out.size))
              clear m0 m1 m2 m3 hb4
              go_wp2_with fail
              go_roundw
              case rel=>exact ⟨j+1,fr,dd,us,by omega,by omega,by omega,by omega,by go_num,rfl,by first | rfl | go_num,by omega,Hh ⟨by rw [HN.out]; try first | rfl | (dsimp only; omega),by rw [HN.out],by rw [HN.out]; exact HD.out.2.2.1,by rw [HN.out]; exact HD.out.2.2.2.1,HD.out.2.2.2.2⟩,Hh (owns_below HO.out HB4.out),Hh (HB.out.trans (HB4.out.mono HB.out.size))⟩
              case measure=>simp [intOf]; omega
    · obtain rfl:j=l.length:=by omega
      have hjf:(fr:Int)≤(l.length:Int):=by omega
      have hf0:(0:Int)≤(fr:Int):=by omega
      by_cases hcf:c=fr
      · have hlf:l.length≤fr:=by omega
        go_wp2_with (at_builtin; refine wpList_append_own _ rfl _ _ 51 rfl w.heap.size 45 i0 (.slice none 0 0) 1 24 Tryz.underlying51 hi hz0 hz1 hz2 rfl (by decide) _ _ _ rfl (HO.out.alloc _) ⟨wr.heap.size,0,none⟩ 1 1 [.slice (some ⟨g,o,none⟩) 0 0] rfl rfl ?c1 ?c2 ?c3 ?c4 ?c5 ?_)
        case c1=>exact cell_one_new _ _ _
        case c2=>intro u hu; simp at hu; subst hu; rfl
        case c3=>unfold maxLen; omega
        case c4=>omega
        case c5=>rw [World.size_alloc]; have:=HB.out.size; omega
        intro v5 w5 hown5 hgrow5 _
        have hal:Below wr.heap.size wr (wr.alloc (.cells #[.slice (some ⟨g,o,none⟩) 0 0] 45)):=(Below.refl _ _).alloc (Nat.le_refl _) _
        have hb5:Below w.heap.size w w5:=(HB.out.trans (hal.mono HB.out.size)).grown hgrow5 (by rw [World.size_alloc]; have:=HB.out.size; omega) (fun k hk=>(HO.out.lt k hk).1)
        have e0:l.length - fr=0:=by omega
        have hpart:Row w (.slice (some ⟨g,o,none⟩) 0 0) ((l.take l.length).drop fr).length (tokc ((l.take l.length).drop fr)):=by
         have h:=HSUB.out fr l.length (some ⟨g,o,none⟩) 0 hf (Nat.le_refl _) (fun h=>absurd h (by omega)) (by omega)
         rw [e0] at h
         exact h
        obtain ⟨h1,h2,h3,h4,_⟩:=HD.out
        rw [←h2] at hpart
        rw [List.take_length] at h2 h3 h4 hpart
        obtain ⟨a5,c5,rfl⟩:=owns_slice hown5
        have hpr:PartsRow w5 (.slice a5 (us.length+1) c5) (splitP l):=by
         rw [HST.out]
         refine ⟨us++[.slice (some ⟨g,o,none⟩) 0 0],by simp [h3],?_,?_⟩
         · exact t165_1
         · exact t165_0
        have HPR:=Hh hpr; have HB5:=Hh hb5
        clear hal hb5 hpart hpr h1 h2 h3 h4 hown5 hgrow5
        go_wp2_with fail
        go_ret
        exact ⟨_,_,_,rfl,HPR.out,HB5.out⟩
      · have hcf2:¬ fr=c:=fun h=>hcf h.symm
        go_wp2_with (at_builtin; refine wpList_append_own _ rfl _ _ 51 rfl w.heap.size 45 i0 (.slice none 0 0) 1 24 Tryz.underlying51 hi hz0 hz1 hz2 rfl (by decide) _ _ _ rfl (HO.out.alloc _) ⟨wr.heap.size,0,none⟩ 1 1 [.slice (some ⟨g,o+fr * 4,none⟩) (l.length - fr) (c - fr)] rfl rfl ?c1 ?c2 ?c3 ?c4 ?c5 ?_)
        case c1=>exact cell_one_new _ _ _
        case c2=>intro u hu; simp at hu; subst hu; rfl
        case c3=>unfold maxLen; omega
        case c4=>omega
        case c5=>rw [World.size_alloc]; have:=HB.out.size; omega
        intro v5 w5 hown5 hgrow5 _
        have hal:Below wr.heap.size wr (wr.alloc (.cells #[.slice (some ⟨g,o+fr * 4,none⟩) (l.length - fr) (c - fr)] 45)):=(Below.refl _ _).alloc (Nat.le_refl _) _
        have hb5:Below w.heap.size w w5:=(HB.out.trans (hal.mono HB.out.size)).grown hgrow5 (by rw [World.size_alloc]; have:=HB.out.size; omega) (fun k hk=>(HO.out.lt k hk).1)
        have hpart:Row w (.slice (some ⟨g,o+fr * 4,none⟩) (l.length - fr) (c - fr)) ((l.take l.length).drop fr).length (tokc ((l.take l.length).drop fr)):=HSUB.out fr l.length (some ⟨g,o+fr * 4,none⟩) (c - fr) hf (Nat.le_refl _) (fun _=>rfl) (by omega)
        obtain ⟨h1,h2,h3,h4,_⟩:=HD.out
        rw [←h2] at hpart
        rw [List.take_length] at h2 h3 h4 hpart
        obtain ⟨a5,c5,rfl⟩:=owns_slice hown5
        have hpr:PartsRow w5 (.slice a5 (us.length+1) c5) (splitP l):=by
         rw [HST.out]
         refine ⟨us++[.slice (some ⟨g,o+fr * 4,none⟩) (l.length - fr) (c - fr)],by simp [h3],?_,?_⟩
         · exact t165_1
         · exact t165_0
        have HPR:=Hh hpr; have HB5:=Hh hb5
        clear hal hb5 hpart hpr h1 h2 h3 h4 hown5 hgrow5
        go_wp2_with fail
        go_ret
        exact ⟨_,_,_,rfl,HPR.out,HB5.out⟩
end Go.Proofs.YtkldoojonnkfgaaGreatDoor
