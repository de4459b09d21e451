/- Joined texts: Line17, Quot16, RUpper, Lex16b, Lex16c, Next16, Toks16, Fn18. -/
import Derived.Test.YtkldoojonnkfgaaGreatDoorA47
namespace Go.Proofs.YtkldoojonnkfgaaGreatDoor
open Go.RowKit Go.Sort
theorem toksGo_code (s:ByteArray) (i:Nat) (acc:List Tok) (c:Int) (h:toksGo s i acc=.error c):c=3∨c=20:=by
 by_cases h1:moreAt s (skipEnd s i)=true
 · cases hn:nextP s (skipEnd s i) with
   | error e =>
     rw [toksGo_err s i acc e h1 hn] at h
     cases h
     exact nextP_err s _ c hn
   | ok x =>
     obtain ⟨t,n⟩:=x
     have hl:=moreAt_lt h1
     have hb:=nextP_bd s _ hl t n hn
     have hg:=skipEnd_ge s i
     rw [toksGo_step s i acc t n h1 hn] at h
     exact toksGo_code s n (acc++[t]) c h
 · rw [toksGo_end s i acc (by simpa using h1)] at h
   cases h
termination_by s.size - i
theorem toksP_code {s:ByteArray} {c:Int} (h:toksP s=.error c):c=3∨c=20∨c=19:=by
 unfold toksP at h
 split at h
 · cases h; exact .inr (.inr rfl)
 · rcases toksGo_code s 0 [] c h with h | h
   · exact .inl h
   · exact .inr (.inl h)
theorem toksP_ok {s:ByteArray} {l:List Tok} (h:toksP s=.ok l):TokOk l∧1≤l.length∧l.length≤1025:=by
 unfold toksP at h
 split at h
 · cases h
 · rename_i hs
   have hl:=toksGo_len s 0 [] l (Nat.zero_le _) h
   refine ⟨toksGo_all s 0 [] l h _ (fun t ht=>by cases ht) (fun j=>⟨Nat.zero_le _,Int.le_refl _,by show (0:Int)≤65535; decide⟩) (fun j n t hj hn=>?_),by simpa using hl.1,by have:=hl.2; simp at this; omega⟩
   have:=nextP_bd s j hj t n hn
   exact ⟨by omega,this.2.2.2.1,this.2.2.2.2⟩
theorem TokOk.sub {l:List Tok} (h:TokOk l):TokOk l.dropLast:=fun t ht=>h t (List.dropLast_subset l ht)
theorem dropLast_part (l:List Tok):(l.take (l.length - 1)).drop 0=l.dropLast:=by rw [List.drop_zero,List.dropLast_eq_take]
noncomputable def parseL (s:ByteArray):Int × Option Ex:=match toksP s with | .ok l=>parseR l.dropLast | .error c=>(c,none)
def knownP (s:ByteArray):Option (List Tok):=if 200<s.size then none else match toksP s with | .ok l=>some l.dropLast | .error _=>none
theorem knownP_ok {s:ByteArray} {l:List Tok} (h:knownP s=some l):TokOk l∧l.length≤1024∧parseL s=parseR l:=by
 unfold knownP at h
 split at h
 · cases h
 · unfold parseL
   cases ht:toksP s with
   | error c=>rw [ht] at h; cases h
   | ok m =>
     rw [ht] at h
     cases h
     have:=toksP_ok ht
     exact ⟨this.1.sub,by rw [List.length_dropLast]; omega,rfl⟩
def qR (o:Option (ByteArray × Nat)):ByteArray × Int:=match o with | some x=>(x.1,x.2) | none=>(⟨#[]⟩,-1)
set_option maxHeartbeats 1000000 in
set_option maxRecDepth 100000 in
theorem quoted16_any (s:ByteArray) (i:Nat) (w:World) (hi:i<s.size) (hs:s.size≤1000000) :
 Calls Tryz.prog 202 #[.string s,.int .i64 i] w fun e w'=>e=.returned (.tuple #[.string (qR (quotedP s i)).1,.int .i64 (qR (quotedP s i)).2])∧w=w':=by
 obtain ⟨R,hR⟩:∃ R,qR (quotedP s i)=R:=⟨_,rfl⟩
 rw [hR]
 unfold quotedP at hR
 rw [←bat_get s i hi] at hR
 obtain ⟨m,hm⟩:∃ m,s[i]=m:=⟨_,rfl⟩
 rw [hm] at hR
 obtain ⟨mk,hmk⟩:∃ mk:Int,(m.toNat:Int)=mk:=⟨_,rfl⟩
 have hmi:(s[i].toNat:Int)=mk:=by rw [hm]; exact hmk
 have hi0:(0:Int)≤(i:Int):=by omega
 have hi1:(i:Int)<(s.size:Int):=by omega
 have HR:=Hh hR; clear hR hm
 have HMK:=Hh hmk; clear hmk
 go_enter Tryz.func202,Tryz.ntmps202
 go_wp2_with fail
 have HMI:=Hh hmi; clear hmi
 go_loop [7,8] (fun x v=>∃ (k:Nat) (acc:ByteArray),k≤s.size∧acc.size≤k∧v=.int .i64 k∧x=.string acc∧Hid (qR (quotedGo s m k acc)=R)) (fun _ v=>s.size - (intOf v).toNat)
 case atStart=>exact ⟨i+1,⟨#[]⟩,hi,Nat.zero_le _,by go_num,rfl,HR⟩
 case round =>
  obtain ⟨k,acc,hk,hac,rfl,rfl,HK⟩:=hrel
  by_cases hlt:k<s.size
  · have hk0:(0:Int)≤(k:Int):=by omega
    have hk1:(k:Int)<(s.size:Int):=by omega
    have hac2:acc.size≤1000000:=by omega
    have hes:(s.extract k (k+1)).size≤1:=by rw [ByteArray.size_extract]; omega
    have hes2:acc.size+(s.extract k (k+1)).size≤k+1:=by omega
    by_cases he:s[k]=m
    · have he':(s[k].toNat:Int)=mk:=by rw [he]; exact HMK.out
      by_cases h2:k+1<s.size
      · have h2':(k:Int)+1<(s.size:Int):=by omega
        by_cases he2:s[k+1]=m
        · have he2':(s[k+1].toNat:Int)=mk:=by rw [he2]; exact HMK.out
          have hst:=HK.out
          rw [quotedGo_two s m k acc hlt he h2 (by rw [←bat_get s (k+1) h2]; exact he2)] at hst
          have HST:=Hh hst; clear hst HK he he2
          go_wp2_with fail
          go_round
          case rel=>exact ⟨k+2,acc++s.extract k (k+1),by omega,by rw [ByteArray.size_append]; omega,by go_num,rfl,HST⟩
          case measure=>simp [intOf]; omega
        · have he2':¬ (s[k+1].toNat:Int)=mk:=by rw [←HMK.out]; intro h; exact he2 (UInt8.toNat_inj.1 (by omega))
          have hst:=HK.out
          rw [quotedGo_end s m k acc hlt he (by rw [←bat_get s (k+1) h2]; exact fun h=>he2 h.2)] at hst
          have HST:=Hh hst; clear hst HK he he2
          go_wp2_with fail
          go_ret2
          exact ⟨by rw [←HST.out]; rfl,rfl⟩
      · have h2':¬ (k:Int)+1<(s.size:Int):=by omega
        have hst:=HK.out
        rw [quotedGo_end s m k acc hlt he (fun h=>h2 h.1)] at hst
        have HST:=Hh hst; clear hst HK he
        go_wp2_with fail
        go_ret2
        exact ⟨by rw [←HST.out]; rfl,rfl⟩
    · have he':¬ (s[k].toNat:Int)=mk:=by rw [←HMK.out]; intro h; exact he (UInt8.toNat_inj.1 (by omega))
      have hst:=HK.out
      rw [quotedGo_step s m k acc hlt he] at hst
      have HST:=Hh hst; clear hst HK he
      go_wp2_with fail
      go_round
      case rel=>exact ⟨k+1,acc++s.extract k (k+1),by omega,by rw [ByteArray.size_append]; omega,by go_num,rfl,HST⟩
      case measure=>simp [intOf]; omega
  · obtain rfl:k=s.size:=by omega
    have hst:=HK.out
    rw [quotedGo_out s m _ acc hlt] at hst
    have HST:=Hh hst; clear hst HK
    go_wp2_with fail
    go_ret2
    exact ⟨by rw [←HST.out]; rfl,rfl⟩
theorem Tryz.infoByte:(Tryz.prog.info? 5).map (fun i=>(i.zero,i.size,i.bytes))=some (some (.int .u8 0),1,1):=by kernel_rfl
def bytc (l:List UInt8):List Value:=l.map fun c=>.int .u8 (c.toNat:Int)
theorem bytc_len (l:List UInt8):(bytc l).length=l.length:=by simp [bytc]
theorem bytc_append (l m:List UInt8):bytc (l++m)=bytc l++bytc m:=by simp [bytc]
set_option maxHeartbeats 1000000 in
set_option maxRecDepth 100000 in
theorem rupper_any (s:ByteArray) (w:World) (hs:s.size≤1000000) :
 Calls Tryz.prog 13 #[.string s] w fun e w'=>e=.returned (.string (upper s))∧Below w.heap.size w w':=by
 obtain ⟨i0,hi,hz0,hz1,hz2⟩:=info_parts Tryz.infoByte
 obtain ⟨B,hB⟩:∃ B,w.heap.size=B:=⟨_,rfl⟩
 obtain ⟨U,hU⟩:∃ U,s.data.toList.map up=U:=⟨_,rfl⟩
 have HU:=Hh hU; clear hU
 have HB:=Hh hB; clear hB
 go_enter Tryz.func13,Tryz.ntmps13
 go_wp2_with fail
 go_loopw [3,4,5] (fun v i _ wr=>∃ k:Nat,k≤s.size∧i=.int .i64 k∧wr.ownsRow B 5 1 v k (bytc (U.take k))∧Below B w wr) (fun _ i _ _=>s.size - (intOf i).toNat)
 case atStart=>exact ⟨0,Nat.zero_le _,rfl,World.ownsRow_nil _ _ _ _,Below.refl _ _⟩
 case round =>
  obtain ⟨k,hk,rfl,hown,hbel⟩:=hrel
  have HOWN:=Hh hown; clear hown
  have HBEL:=Hh hbel; clear hbel
  by_cases hlt:k<s.size
  · have hi0:(0:Int)≤(k:Int):=by omega
    have hi1:(k:Int)<(s.size:Int):=by omega
    have hup:=up_toNat s[k]
    have hc1:(s[k].toNat:Int)≤255:=by have:=s[k].toNat_lt; omega
    have hsucc:bytc (U.take (k+1))=bytc (U.take k)++[.int .u8 ((up s[k]).toNat:Int)]:=by
     rw [List.take_add_one,←HU.out,bytc_append]
     congr 1
     simp [bytc,hlt]
     rfl
    by_cases h1:97≤(s[k].toNat:Int)
    · by_cases h2:(s[k].toNat:Int)≤122
      · rw [if_pos ⟨h1,h2⟩,show (s[k].toNat:Int) - 97+65=(s[k].toNat:Int) - 32 by omega] at hup
        rw [hup] at hsucc
        clear hup
        have Hk:=Hh hsucc; clear hsucc
        go_wp2_with (at_builtin; refine wpList_append_own _ rfl _ _ 79 rfl B 5 i0 (.int .u8 0) 1 1 Tryz.underlying79 hi hz0 hz1 hz2 rfl (by decide) _ _ _ rfl (owns_below' HOWN.out (bl)) _ 1 1 [.int .u8 ((s[k].toNat:Int) - 32)] rfl rfl ?c1 ?c2 ?c3 ?c4 ?c5 ?_)
        try case c1 =>
         intro q u hq
         rw [addr_add]
         match q,hq with
         | 0,hq=>simp at hq; subst hq; simp [go_sem]
        case c2=>first | (intro u hu; simp at hu; subst hu; rfl) | rfl
        case c3=>unfold maxLen; omega
        case c4=>omega
        case c5=>have:=HBEL.out.size; have:=HB.out; simp [go_sem]; omega
        intro v' w1 hown' hgrow _
        have hsz:B≤wr.heap.size:=by have:=HBEL.out.size; have:=HB.out; omega
        have hb':Below B w w1:=(HBEL.out.trans (Below.mono (show Below wr.heap.size wr _ from bl) hsz)).grown hgrow (by simp [go_sem]; omega) (by
         intro q hq
         have:=HOWN.out.2
         rcases this with ⟨h,_⟩ | ⟨g,cap,cur,h,hg,_⟩
         · rw [h] at hq; cases hq
         · rw [h] at hq; cases hq; exact hg)
        have HOWN3:=Hh hown'; clear hown'
        have HB':=Hh hb'; clear hb' hgrow
        go_wp2_with fail
        go_roundw
        case rel=>exact ⟨k+1,by omega,by go_num,by rw [Hk.out]; exact HOWN3.out,HB'.out⟩
        case measure=>simp [intOf]; omega
      · rw [if_neg (fun h=>h2 h.2)] at hup
        rw [hup] at hsucc
        clear hup
        have Hk:=Hh hsucc; clear hsucc
        go_wp2_with (at_builtin; refine wpList_append_own _ rfl _ _ 79 rfl B 5 i0 (.int .u8 0) 1 1 Tryz.underlying79 hi hz0 hz1 hz2 rfl (by decide) _ _ _ rfl (owns_below' HOWN.out (bl)) _ 1 1 [.int .u8 ((s[k].toNat:Int))] rfl rfl ?c1 ?c2 ?c3 ?c4 ?c5 ?_)
        try case c1 =>
         intro q u hq
         rw [addr_add]
         match q,hq with
         | 0,hq=>simp at hq; subst hq; simp [go_sem]
        case c2=>first | (intro u hu; simp at hu; subst hu; rfl) | rfl
        case c3=>unfold maxLen; omega
        case c4=>omega
        case c5=>have:=HBEL.out.size; have:=HB.out; simp [go_sem]; omega
        intro v' w1 hown' hgrow _
        have hsz:B≤wr.heap.size:=by have:=HBEL.out.size; have:=HB.out; omega
        have hb':Below B w w1:=(HBEL.out.trans (Below.mono (show Below wr.heap.size wr _ from bl) hsz)).grown hgrow (by simp [go_sem]; omega) (by
         intro q hq
         have:=HOWN.out.2
         rcases this with ⟨h,_⟩ | ⟨g,cap,cur,h,hg,_⟩
         · rw [h] at hq; cases hq
         · rw [h] at hq; cases hq; exact hg)
        have HOWN3:=Hh hown'; clear hown'
        have HB':=Hh hb'; clear hb' hgrow
        go_wp2_with fail
        go_roundw
        case rel=>exact ⟨k+1,by omega,by go_num,by rw [Hk.out]; exact HOWN3.out,HB'.out⟩
        case measure=>simp [intOf]; omega
    · rw [if_neg (fun h=>h1 h.1)] at hup
      rw [hup] at hsucc
      clear hup
      have Hk:=Hh hsucc; clear hsucc
      go_wp2_with (at_builtin; refine wpList_append_own _ rfl _ _ 79 rfl B 5 i0 (.int .u8 0) 1 1 Tryz.underlying79 hi hz0 hz1 hz2 rfl (by decide) _ _ _ rfl (owns_below' HOWN.out (bl)) _ 1 1 [.int .u8 ((s[k].toNat:Int))] rfl rfl ?c1 ?c2 ?c3 ?c4 ?c5 ?_)
      try case c1 =>
       intro q u hq
       rw [addr_add]
       match q,hq with
       | 0,hq=>simp at hq; subst hq; simp [go_sem]
      case c2=>first | (intro u hu; simp at hu; subst hu; rfl) | rfl
      case c3=>unfold maxLen; omega
      case c4=>omega
      case c5=>have:=HBEL.out.size; have:=HB.out; simp [go_sem]; omega
      intro v' w1 hown' hgrow _
      have hsz:B≤wr.heap.size:=by have:=HBEL.out.size; have:=HB.out; omega
      have hb':Below B w w1:=(HBEL.out.trans (Below.mono (show Below wr.heap.size wr _ from bl) hsz)).grown hgrow (by simp [go_sem]; omega) (by
       intro q hq
       have:=HOWN.out.2
       rcases this with ⟨h,_⟩ | ⟨g,cap,cur,h,hg,_⟩
       · rw [h] at hq; cases hq
       · rw [h] at hq; cases hq; exact hg)
      have HOWN3:=Hh hown'; clear hown'
      have HB':=Hh hb'; clear hb' hgrow
      go_wp2_with fail
      go_roundw
      case rel=>exact ⟨k+1,by omega,by go_num,by rw [Hk.out]; exact HOWN3.out,HB'.out⟩
      case measure=>simp [intOf]; omega
  · obtain rfl:k=s.size:=by omega
    have hlen:U.length=s.size:=by rw [←HU.out]; simp
    have hrow:=Row.of_owns HOWN.out
    rw [List.take_of_length_le (by omega)] at hrow
    obtain ⟨a2,c2,rfl,hc2,hr⟩:=hrow
    have hconv:(convert 79 9 (.slice a2 s.size c2)).run Tryz.prog wr=.ok (.string (upper s)) wr:=by
     have hU:upper s=⟨U.toArray⟩:=by unfold upper; rw [HU.out]
     rw [hU]
     by_cases hnil:U=[]
     · have h0:s.size=0:=by rw [←hlen,hnil]; rfl
       rw [h0,hnil,run_convert_bytes_string (P:=Tryz.prog) wr 79 9 5 a2 0 c2 Tryz.underlying79 Tryz.underlying5 Tryz.underlying9]
       cases a2 with
       | none=>rfl
       | some a=>rfl
     · obtain ⟨g,o,rfl,hg,hcs⟩:=hr (by intro e; have h2:=bytc_len U; rw [e] at h2; exact hnil (List.eq_nil_of_length_eq_zero h2.symm))
       have:=run_convert_bytes_back (P:=Tryz.prog) wr 79 9 5 ⟨g,o,none⟩ c2 U Tryz.underlying79 Tryz.underlying5 Tryz.underlying9 (fun j hj=>by
        rw [addr_add,hcs j (by rw [bytc_len]; exact hj)]
        simp [bytc,hj])
       rw [hlen] at this
       exact this
    clear hr
    go_wp2_with fail
    go_ret
    exact ⟨rfl,by rw [HB.out]; exact HBEL.out⟩
theorem sub_len (s:ByteArray) (i j:Nat):(sub s i j).size≤s.size:=by
 unfold sub; rw [ByteArray.size_extract]; omega
set_option maxHeartbeats 400000 in
set_option maxRecDepth 100000 in
theorem word16_any (s:ByteArray) (i:Nat) (w:World) (hi:i≤s.size) (hs:s.size≤1000000) :
 Calls Tryz.prog 198 #[.string s,.int .i64 i] w fun e w'=>e=.returned (.int .i64 (wordEnd s i:Nat))∧Below w.heap.size w w':=by
 by_cases hlt:i<s.size
 · have hi0:(0:Int)≤(i:Int):=by omega
   have hi1:(i:Int)<(s.size:Int):=by omega
   have hl:=fun w=>letter16_any s[i] w
   rcases hb:isLet s[i] with _ | _
   · have hr:wordEnd s i=i:=by unfold wordEnd; rw [dif_pos hlt,if_neg (by rw [hb]; simp)]
     rw [hr]; rw [hb] at hl
     have HL:=Hh hl; clear hl hb hr
     go_enter Tryz.func198,Tryz.ntmps198
     go_wp2_with fail
     refine (HL.out _).mono ?_
     rintro e w1 ⟨rfl,rfl⟩
     go_wp2_with fail
     go_ret
     exact ⟨rfl,Below.refl _ _⟩
   · rw [hb] at hl
     obtain ⟨m,hm⟩:∃ m,runEnd s i=m:=⟨_,rfl⟩
     have hm1:=runEnd_ge s i
     have hm2:=runEnd_le s i hi
     have hrun:=fun w=>run16_any s i w hi hs
     rw [hm] at hm1 hm2
     simp only [hm] at hrun
     have hm3:(i:Int)≤(m:Int):=by omega
     have hm4:(m:Int)≤(s.size:Int):=by omega
     have hwe:wordEnd s i=(if h2:m<s.size then (if (upper (sub s i m)).toList=[65,70]∧s[m]=39 then m+1 else m) else m):=by
      unfold wordEnd; rw [dif_pos hlt,if_pos hb]; subst hm; rfl
     rw [hwe]
     obtain ⟨R,hR⟩:∃ R,(if h2:m<s.size then (if (upper (sub s i m)).toList=[65,70]∧s[m]=39 then m+1 else m) else m)=R:=⟨_,rfl⟩
     rw [hR]
     have HR:=Hh hR; clear hR
     have hub:=sub_len s i m
     have HUP:=Hh (fun w=>rupper_any (sub s i m) w (by omega))
     have HL:=Hh hl; clear hl hb hwe hm
     have HRUN:=Hh hrun; clear hrun
     go_enter Tryz.func198,Tryz.ntmps198
     go_wp2_with fail
     refine (HL.out _).mono ?_
     rintro e w1 ⟨rfl,rfl⟩
     go_wp2_with fail
     refine (HRUN.out _).mono ?_
     rintro e w1 ⟨rfl,rfl⟩
     go_wp2_with fail
     refine (HUP.out _).mono ?_
     rintro e w1 ⟨rfl,hb⟩
     obtain ⟨p1,rfl⟩:=gw_of_below hb
     clear hb
     rcases hAF:((upper (sub s i m)).toList == [65,70]) with _ | _
     · have hne:¬ ((upper (sub s i m)).toList=[65,70]):=by simpa using hAF
       have hres:R=m:=by
        rw [←HR.out]
        split
        · rw [if_neg (fun h=>hne h.1)]
        · rfl
       have HRES:=Hh hres; clear hres hne
       go_wp2_with fail
       go_ret
       exact ⟨by rw [HRES.out]; rfl,bl⟩
     · have he:(upper (sub s i m)).toList=[65,70]:=by simpa using hAF
       by_cases h2:m<s.size
       · have h3:(m:Int)<(s.size:Int):=by omega
         have h4:(0:Int)≤(m:Int):=by omega
         by_cases hq:(s[m].toNat:Int)=39
         · have hres:R=m+1:=by
            rw [←HR.out]
            rw [dif_pos h2,if_pos ⟨he,UInt8.toNat_inj.1 (by show s[m].toNat=39; omega)⟩]
           have HRES:=Hh hres; clear hres he
           go_wp2_with fail
           go_ret
           exact ⟨by rw [HRES.out]; rfl,bl⟩
         · have hres:R=m:=by
            rw [←HR.out]
            rw [dif_pos h2,if_neg (fun h=>hq (by rw [h.2]; rfl))]
           have HRES:=Hh hres; clear hres he
           go_wp2_with fail
           go_ret
           exact ⟨by rw [HRES.out]; rfl,bl⟩
       · have h3:¬ (m:Int)<(s.size:Int):=by omega
         have hres:R=m:=by
          rw [←HR.out]
          rw [dif_neg h2]
         have HRES:=Hh hres; clear hres he
         go_wp2_with fail
         go_ret
         exact ⟨by rw [HRES.out]; rfl,bl⟩
 · have hr:wordEnd s i=i:=by unfold wordEnd; rw [dif_neg hlt]
   rw [hr]
   have hi1:¬ (i:Int)<(s.size:Int):=by omega
   have hi2:(s.size:Int)≤(i:Int):=by omega
   clear hr
   go_enter Tryz.func198,Tryz.ntmps198
   go_wp2_with fail
   go_ret
   exact ⟨rfl,Below.refl _ _⟩
theorem signs1_at (q:Nat) (h:q<14):signs1[q]? = some ((⟨#[44,40,41,43,45,42,47,38,124,94,126,58,61,36]⟩:ByteArray)[q]'h):=by
 show (⟨#[44,40,41,43,45,42,47,38,124,94,126,58,61,36]⟩:ByteArray).data.toList[q]? = _
 rw [List.getElem?_eq_getElem (by simpa using h)]
 simp
 rfl
theorem t170_0 {p:Prop} (h:p:=by
 obtain ⟨q,hq,rfl,HN,hbel⟩:=hrel
 have HBEL:=Hh hbel; clear hbel
 by_cases hlt:q<14
 · have hA:q<(⟨#[44,40,41,43,45,42,47,38,124,94,126,58,61,36]⟩:ByteArray).size:=hlt
   have hi2:(0:Int)≤(q:Int):=by omega
   have hi3:(q:Int)<14:=by omega
   have hget:signs1[q]? = some ((⟨#[44,40,41,43,45,42,47,38,124,94,126,58,61,36]⟩:ByteArray)[q]):=signs1_at q hlt
   rcases he:((s[i].toNat:Int) == (((⟨#[44,40,41,43,45,42,47,38,124,94,126,58,61,36]⟩:ByteArray)[q]).toNat:Int)) with _ | _
   · have hno:s[i]∉signs1.take (q+1):=by
      have h1:=HN.out
      rw [List.take_add_one,hget]
      intro hm
      rcases List.mem_append.1 hm with hm | hm
      · exact h1 hm
      · rw [Option.toList_some,List.mem_singleton] at hm
        rw [←hm] at he
        simp at he
     have HNO:=Hh hno; clear hno hget
     go_wp2_with fail
     go_region
     all_goals
      go_wp2_with fail
      go_roundw
     case rel=>exact ⟨q+1,by omega,by go_num,HNO,HBEL.out.drew⟩
     case measure=>simp [intOf]; omega
   · have hmem:s[i]∈signs1:=by
      have:s[i]=(⟨#[44,40,41,43,45,42,47,38,124,94,126,58,61,36]⟩:ByteArray)[q]:=UInt8.toNat_inj.1 (by have:=eq_of_beq he; omega)
      rw [this]; exact List.mem_of_getElem? hget
     have HMEM:=Hh hmem; clear hmem hget
     go_wp2_with fail
     go_region
     all_goals
      go_wp2_with fail
      go_ret
      exact ⟨by rw [HRES.out,if_pos HMEM.out]; rfl,HBEL.out.drew⟩
 · obtain rfl:q=14:=by omega
   have hno:s[i]∉signs1:=by have:=HN.out; rwa [show signs1.take 14=signs1 from rfl] at this
   have HNO:=Hh hno; clear hno
   go_wp2_with fail
   go_ret
   exact ⟨by rw [HRES.out,if_neg HNO.out]; rfl,HBEL.out⟩):p:=h
set_option maxHeartbeats 1000000 in
set_option maxRecDepth 100000 in
theorem sign16_any (s:ByteArray) (i:Nat) (w:World) (hi:i<s.size) (hs:s.size≤1000000) :
 Calls Tryz.prog 203 #[.string s,.int .i64 i] w fun e w'=>e=.returned (.int .i64 (signLen s i:Nat))∧Below w.heap.size w w':=by
 obtain ⟨R,hR⟩:∃ R,signLen s i=R:=⟨_,rfl⟩
 rw [hR]
 unfold signLen at hR
 rw [dif_pos hi] at hR
 have HR:=Hh hR; clear hR
 have hi0:(0:Int)≤(i:Int):=by omega
 have hi1:(i:Int)<(s.size:Int):=by omega
 by_cases h2:i+1<s.size
 · have h3:(i:Int)+1<(s.size:Int):=by omega
   have h4:(i:Int)+2≤(s.size:Int):=by omega
   have h5:(i:Int)≤(i:Int)+2:=by omega
   rcases hq:((s.extract i (i+2)).toList == [60,60]) with _ | _
   · rcases hq2:((s.extract i (i+2)).toList == [62,62]) with _ | _
     · have hres:R=if s[i]∈signs1 then 1 else 0:=by
        rw [←HR.out,if_neg]
        rintro ⟨_,h | h⟩
        · rw [h] at hq; cases hq
        · rw [h] at hq2; cases hq2
       have HRES:=Hh hres; clear hres HR
       go_enter Tryz.func203,Tryz.ntmps203
       go_wp2_with fail
       go_loopw [6] (fun v wr=>∃ q:Nat,q≤14∧v=.int .i64 q∧Hid (s[i]∉signs1.take q)∧Below w.heap.size w wr) (fun v _=>14 - (intOf v).toNat)
       case atStart=>exact ⟨0,Nat.zero_le _,rfl,Hh (by simp),Below.refl _ _⟩
       case round =>
        exact t170_0
     · have hres:R=2:=by rw [←HR.out,if_pos ⟨h2,.inr (by simpa using hq2)⟩]
       have HRES:=Hh hres; clear hres HR
       go_enter Tryz.func203,Tryz.ntmps203
       go_wp2_with fail
       go_ret
       exact ⟨by rw [HRES.out]; rfl,Below.refl _ _⟩
   · have hres:R=2:=by rw [←HR.out,if_pos ⟨h2,.inl (by simpa using hq)⟩]
     have HRES:=Hh hres; clear hres HR
     go_enter Tryz.func203,Tryz.ntmps203
     go_wp2_with fail
     go_ret
     exact ⟨by rw [HRES.out]; rfl,Below.refl _ _⟩
 · have h3:¬ (i:Int)+1<(s.size:Int):=by omega
   have hres:R=if s[i]∈signs1 then 1 else 0:=by rw [←HR.out,if_neg (fun h=>h2 h.1)]
   have HRES:=Hh hres; clear hres HR
   go_enter Tryz.func203,Tryz.ntmps203
   go_wp2_with fail
   go_loopw [6] (fun v wr=>∃ q:Nat,q≤14∧v=.int .i64 q∧Hid (s[i]∉signs1.take q)∧Below w.heap.size w wr) (fun v _=>14 - (intOf v).toNat)
   case atStart=>exact ⟨0,Nat.zero_le _,rfl,Hh (by simp),Below.refl _ _⟩
   case round =>
    exact t170_0
abbrev tok16V (t:Tok):Value:=.agg #[.int .i64 t.kind,.string t.text,.int .i64 t.n,.int .i64 t.off]
def nextR (i:Nat) (x:Except Int (Tok × Nat)):Tok × Int × Int:=match x with | .ok y=>(y.1,y.2,0) | .error e=>(⟨0,⟨#[]⟩,0,i⟩,0,e)
theorem t173_0 {p:Prop} (h:p:=by
 rw [h1] at hun
 simp only [e1,h2] at hpar
 clear e1 h1 h2 hRr
 have HPAR:=Hh hpar; clear hpar
 have HUN:=Hh hun; clear hun hq34 hc8
 go_enter Tryz.func122,Tryz.ntmps122
 go_wp2_with fail
 refine (HW.out _).mono ?_
 rintro e w1 ⟨rfl,hb⟩
 obtain ⟨p1,rfl⟩:=gw_of_below hb
 clear hb
 go_wp2_with fail
 refine (HRUN.out _).mono ?_
 rintro e w1 ⟨rfl,rfl⟩
 go_wp2_with fail
 refine (HDIG.out _).mono ?_
 rintro e w1 ⟨rfl,rfl⟩
 go_wp2_with fail
 refine (HPAR.out _).mono ?_
 rintro e w1 ⟨rfl,rfl⟩
 go_wp2_with fail
 rw [←HUN.out]
 exact bodyPost_ret (v:=.tuple #[tok16V ⟨2,⟨#[]⟩,(n:Nat),(i:Int)⟩,.int .i64 (m:Nat),.int .i64 0]) (by simp [results,Tryz.results122,go_sem, *]) rfl ⟨rfl,bl⟩):p:=h
theorem t173_1 {p:Prop} (h:p:=by
 rw [h1] at hun
 simp only [e1,h2] at hpar
 clear e1 h1 h2 hRr
 have HPAR:=Hh hpar; clear hpar
 have HUN:=Hh hun; clear hun hq34 hc8
 go_enter Tryz.func122,Tryz.ntmps122
 go_wp2_with fail
 refine (HW.out _).mono ?_
 rintro e w1 ⟨rfl,hb⟩
 obtain ⟨p1,rfl⟩:=gw_of_below hb
 clear hb
 go_wp2_with fail
 refine (HRUN.out _).mono ?_
 rintro e w1 ⟨rfl,rfl⟩
 go_wp2_with fail
 refine (HDIG.out _).mono ?_
 rintro e w1 ⟨rfl,rfl⟩
 go_wp2_with fail
 refine (HPAR.out _).mono ?_
 rintro e w1 ⟨rfl,rfl⟩
 go_wp2_with fail
 rw [←HUN.out]
 exact bodyPost_ret (v:=.tuple #[tok16V ⟨0,⟨#[]⟩,0,(i:Int)⟩,.int .i64 0,.int .i64 3]) (by simp [results,Tryz.results122,go_sem, *]) rfl ⟨rfl,bl⟩):p:=h
theorem t173_2 {p:Prop} (h:p:=by
 rw [if_neg hk0] at hun
 have hk0':¬ (k:Int)=0:=by omega
 have hk5:(0:Int)≤(k:Int):=by omega
 have HUN:=Hh hun; clear hun hq34 hc8
 go_enter Tryz.func122,Tryz.ntmps122
 go_wp2_with fail
 refine (HW.out _).mono ?_
 rintro e w1 ⟨rfl,hb⟩
 obtain ⟨p1,rfl⟩:=gw_of_below hb
 clear hb
 go_wp2_with fail
 refine (HRUN.out _).mono ?_
 rintro e w1 ⟨rfl,rfl⟩
 go_wp2_with fail
 refine (HDIG.out _).mono ?_
 rintro e w1 ⟨rfl,rfl⟩
 go_wp2_with fail
 refine (HS.out _).mono ?_
 rintro e w1 ⟨rfl,hb⟩
 obtain ⟨p2,rfl⟩:=gw_of_below hb
 clear hb
 go_wp2_with fail
 rw [←HUN.out]
 exact bodyPost_ret (v:=.tuple #[tok16V ⟨4,sub s i (i+k),0,(i:Int)⟩,.int .i64 ((i+k:Nat)),.int .i64 0]) (by simp [results,Tryz.results122,go_sem, *]) rfl ⟨rfl,bl⟩):p:=h
theorem t173_3 {p:Prop} (h:p:=by
 rw [h1] at hun
 simp only [h2] at hquo
 clear h1 h2 hRr
 have hn0:¬ (n:Int)<0:=by omega
 have HQ:=Hh hquo; clear hquo
 have HUN:=Hh hun; clear hun hq34 hc8
 go_enter Tryz.func122,Tryz.ntmps122
 go_wp2_with fail
 refine (HW.out _).mono ?_
 rintro e w1 ⟨rfl,hb⟩
 obtain ⟨p1,rfl⟩:=gw_of_below hb
 clear hb
 go_wp2_with fail
 refine (HRUN.out _).mono ?_
 rintro e w1 ⟨rfl,rfl⟩
 go_wp2_with fail
 refine (HDIG.out _).mono ?_
 rintro e w1 ⟨rfl,rfl⟩
 go_wp2_with fail
 refine (HQ.out _).mono ?_
 rintro e w1 ⟨rfl,rfl⟩
 go_wp2_with fail
 rw [←HUN.out]
 exact bodyPost_ret (v:=.tuple #[tok16V ⟨3,t,0,(i:Int)⟩,.int .i64 (n:Nat),.int .i64 0]) (by simp [results,Tryz.results122,go_sem, *]) rfl ⟨rfl,bl⟩):p:=h
theorem t173_4 {p:Prop} (h:p:=by
 rw [h1] at hun
 simp only [h2] at hquo
 clear h1 h2 hRr
 have HQ:=Hh hquo; clear hquo
 have HUN:=Hh hun; clear hun hq34 hc8
 go_enter Tryz.func122,Tryz.ntmps122
 go_wp2_with fail
 refine (HW.out _).mono ?_
 rintro e w1 ⟨rfl,hb⟩
 obtain ⟨p1,rfl⟩:=gw_of_below hb
 clear hb
 go_wp2_with fail
 refine (HRUN.out _).mono ?_
 rintro e w1 ⟨rfl,rfl⟩
 go_wp2_with fail
 refine (HDIG.out _).mono ?_
 rintro e w1 ⟨rfl,rfl⟩
 go_wp2_with fail
 refine (HQ.out _).mono ?_
 rintro e w1 ⟨rfl,rfl⟩
 go_wp2_with fail
 rw [←HUN.out]
 exact bodyPost_ret (v:=.tuple #[tok16V ⟨0,⟨#[]⟩,0,(i:Int)⟩,.int .i64 0,.int .i64 3]) (by simp [results,Tryz.results122,go_sem, *]) rfl ⟨rfl,bl⟩):p:=h
theorem t173_5 {p:Prop} (h:p:=by
 rw [if_pos hk0] at hun
 subst hk0
 have HUN:=Hh hun; clear hun hq34 hc8
 go_enter Tryz.func122,Tryz.ntmps122
 go_wp2_with fail
 refine (HW.out _).mono ?_
 rintro e w1 ⟨rfl,hb⟩
 obtain ⟨p1,rfl⟩:=gw_of_below hb
 clear hb
 go_wp2_with fail
 refine (HRUN.out _).mono ?_
 rintro e w1 ⟨rfl,rfl⟩
 go_wp2_with fail
 refine (HDIG.out _).mono ?_
 rintro e w1 ⟨rfl,rfl⟩
 go_wp2_with fail
 refine (HS.out _).mono ?_
 rintro e w1 ⟨rfl,hb⟩
 obtain ⟨p2,rfl⟩:=gw_of_below hb
 clear hb
 go_wp2_with fail
 rw [←HUN.out]
 exact bodyPost_ret (v:=.tuple #[tok16V ⟨0,⟨#[]⟩,0,(i:Int)⟩,.int .i64 0,.int .i64 20]) (by simp [results,Tryz.results122,go_sem, *]) rfl ⟨rfl,bl⟩):p:=h
set_option maxHeartbeats 4000000 in
set_option maxRecDepth 100000 in
theorem next16_any (s:ByteArray) (i:Nat) (w:World) (hi:i<s.size) (hs:s.size≤1000000) :
 Calls Tryz.prog 122 #[.string s,.int .i64 i] w fun e w'=>e=.returned (.tuple #[tok16V (nextR i (nextP s i)).1,.int .i64 (nextR i (nextP s i)).2.1,.int .i64 (nextR i (nextP s i)).2.2])∧Below w.heap.size w w':=by
 obtain ⟨R,hR⟩:∃ R,nextR i (nextP s i)=R:=⟨_,rfl⟩
 rw [hR]
 have hi0:(0:Int)≤(i:Int):=by omega
 have hi1:(i:Int)<(s.size:Int):=by omega
 obtain ⟨W,hW⟩:∃ W,wordEnd s i=W:=⟨_,rfl⟩
 obtain ⟨m,hm⟩:∃ m,runEnd s (i+1)=m:=⟨_,rfl⟩
 obtain ⟨d,hd⟩:∃ d,isDig s[i]=d:=⟨_,rfl⟩
 obtain ⟨c,hc⟩:∃ c:Int,(s[i].toNat:Int)=c:=⟨_,rfl⟩
 have hc8:∀ k:UInt8,bat s i=k↔c=(k.toNat:Int):=fun k=>by
  rw [←bat_get s i hi,←hc,←UInt8.toNat_inj]; omega
 have hw:=fun w=>word16_any s i w (by omega) hs
 have hrun:=fun w=>run16_any s (i+1) w (by omega) hs
 have hdig:=fun w=>digit16_any s[i] w
 have hm1:=runEnd_ge s (i+1)
 have hm2:=runEnd_le s (i+1) (by omega)
 have hw2:=wordEnd_le s i (by omega)
 have hpar:=fun w=>parse01_any (sub s i m) w (by unfold sub; rw [ByteArray.size_extract]; omega)
 have hnum:isNumAt s i=(d || decide (c=37) || (decide (c=36) && decide (i+1<m))):=by
  unfold isNumAt
  rw [←bat_get s i hi,hd,hm]
  have e:∀ k:UInt8,(s[i] == k)=decide (c=(k.toNat:Int)):=fun k=>by
   rw [bat_get s i hi,Bool.eq_iff_iff,beq_iff_eq,decide_eq_true_iff]; exact hc8 k
  rw [e 37,e 36]; rfl
 rw [hW] at hw2
 rw [hm] at hm1 hm2
 simp only [hW] at hw
 simp only [hd,hc] at hdig
 have hrun':∀ w,Calls Tryz.prog 199 #[.string s,.int .i64 ((i:Int)+1)] w fun e w'=>e=.returned (.int .i64 (m:Nat))∧w=w':=fun w=>by have h:=hrun w; rw [hm] at h; exact h
 have hm1':(i:Int)+1≤(m:Int):=by omega
 have hm2':(m:Int)≤(s.size:Int):=by omega
 have hw2':(W:Int)≤(s.size:Int):=by omega
 have hun:=hR
 unfold nextP at hun
 rw [hW,hm,hnum] at hun
 have hq34:(bat s i=34∨bat s i=39)↔(c=34∨c=39):=by rw [hc8,hc8]; rfl
 simp only [hq34] at hun
 clear hrun hR hnum hW hm hd
 have HRUN:=Hh hrun'; clear hrun'
 have HW:=Hh hw; clear hw
 have HDIG:=Hh hdig; clear hdig
 have HPAR:=Hh hpar; clear hpar
 by_cases hA:i<W
 · have hA':(i:Int)<(W:Int):=by omega
   rw [if_pos hA] at hun
   have HUN:=Hh hun; clear hun hq34 hc8
   go_enter Tryz.func122,Tryz.ntmps122
   go_wp2_with fail
   refine (HW.out _).mono ?_
   rintro e w1 ⟨rfl,hb⟩
   obtain ⟨p1,rfl⟩:=gw_of_below hb
   clear hb
   go_wp2_with fail
   rw [←HUN.out]
   exact bodyPost_ret (v:=.tuple #[tok16V ⟨1,sub s i W,0,(i:Int)⟩,.int .i64 (W:Nat),.int .i64 0]) (by simp [results,Tryz.results122,go_sem, *]) rfl ⟨rfl,bl⟩
 have hA':¬ (i:Int)<(W:Int):=by omega
 rw [if_neg hA] at hun
 by_cases hd1:d=true
 · subst hd1
   have hN:(true || decide (c=37) || (decide (c=36) && decide (i+1<m)))=true:=rfl
   rw [if_pos hN] at hun
   clear hN
   have hRr:∀ o:Option Nat,(o=none∧dR o=(0,false))∨∃ n,o=some n∧dR o=((n:Int),true):=fun o=>by cases o with
    | none=>exact .inl ⟨rfl,rfl⟩
    | some n=>exact .inr ⟨n,rfl,rfl⟩
   have hpar:=HPAR.out
   clear HPAR
   have e1:numR (sub s i m)=dR (numP (sub s i m)):=rfl
   rcases hRr (numP (sub s i m)) with ⟨h1,h2⟩ | ⟨n,h1,h2⟩
   · exact t173_1
   · exact t173_0
 by_cases h37:c=37
 · have hN:(d || decide (c=37) || (decide (c=36) && decide (i+1<m)))=true:=by rw [h37]; simp
   obtain rfl:d=false:=by simpa using hd1
   subst h37
   rw [if_pos hN] at hun
   clear hN
   have hRr:∀ o:Option Nat,(o=none∧dR o=(0,false))∨∃ n,o=some n∧dR o=((n:Int),true):=fun o=>by cases o with
    | none=>exact .inl ⟨rfl,rfl⟩
    | some n=>exact .inr ⟨n,rfl,rfl⟩
   have hpar:=HPAR.out
   clear HPAR
   have e1:numR (sub s i m)=dR (numP (sub s i m)):=rfl
   rcases hRr (numP (sub s i m)) with ⟨h1,h2⟩ | ⟨n,h1,h2⟩
   · exact t173_1
   · exact t173_0
 by_cases h36:c=36∧i+1<m
 · obtain ⟨h36,h36m⟩:=h36
   have h36':(i:Int)+1<(m:Int):=by omega
   have hN:(d || decide (c=37) || (decide (c=36) && decide (i+1<m)))=true:=by rw [h36,decide_eq_true h36m]; simp
   obtain rfl:d=false:=by simpa using hd1
   subst h36
   rw [if_pos hN] at hun
   clear hN
   have hRr:∀ o:Option Nat,(o=none∧dR o=(0,false))∨∃ n,o=some n∧dR o=((n:Int),true):=fun o=>by cases o with
    | none=>exact .inl ⟨rfl,rfl⟩
    | some n=>exact .inr ⟨n,rfl,rfl⟩
   have hpar:=HPAR.out
   clear HPAR
   have e1:numR (sub s i m)=dR (numP (sub s i m)):=rfl
   rcases hRr (numP (sub s i m)) with ⟨h1,h2⟩ | ⟨n,h1,h2⟩
   · exact t173_1
   · exact t173_0
 obtain rfl:d=false:=by simpa using hd1
 have hN:¬ (false || decide (c=37) || (decide (c=36) && decide (i+1<m)))=true:=by
  simp only [Bool.or_eq_true,Bool.and_eq_true,decide_eq_true_eq,Bool.false_eq_true,false_or]
  rintro (h | h)
  · exact h37 h
  · exact h36 h
 rw [if_neg hN] at hun
 clear hN HPAR hd1
 by_cases h34:c=34
 · subst h34
   rw [if_pos (by decide)] at hun
   clear h36 h37
   have hquo:=fun w=>quoted16_any s i w hi hs
   have hRr:∀ o:Option (ByteArray × Nat),(o=none∧qR o=(⟨#[]⟩,-1))∨∃ t n,o=some (t,n)∧qR o=(t,(n:Int)):=fun o=>by cases o with
    | none=>exact .inl ⟨rfl,rfl⟩
    | some n=>exact .inr ⟨n.1,n.2,rfl,rfl⟩
   rcases hRr (quotedP s i) with ⟨h1,h2⟩ | ⟨t,n,h1,h2⟩
   · exact t173_4
   · exact t173_3
 by_cases h39:c=39
 · subst h39
   rw [if_pos (by decide)] at hun
   clear h36 h37
   have hquo:=fun w=>quoted16_any s i w hi hs
   have hRr:∀ o:Option (ByteArray × Nat),(o=none∧qR o=(⟨#[]⟩,-1))∨∃ t n,o=some (t,n)∧qR o=(t,(n:Int)):=fun o=>by cases o with
    | none=>exact .inl ⟨rfl,rfl⟩
    | some n=>exact .inr ⟨n.1,n.2,rfl,rfl⟩
   rcases hRr (quotedP s i) with ⟨h1,h2⟩ | ⟨t,n,h1,h2⟩
   · exact t173_4
   · exact t173_3
 rw [if_neg (by rintro (h | h); exact h34 h; exact h39 h)] at hun
 obtain ⟨k,hk⟩:∃ k,signLen s i=k:=⟨_,rfl⟩
 have hsg:=fun w=>sign16_any s i w hi hs
 have hk2:=signLen_le s i hi
 rw [hk] at hun hk2
 simp only [hk] at hsg
 obtain ⟨hk3,hk4⟩:=hk2
 have hk3':(i:Int)+(k:Int)≤(s.size:Int):=by omega
 clear hk
 have HS:=Hh hsg; clear hsg
 by_cases h6:c=36
 · have hnm:¬ (i:Int)+1<(m:Int):=fun h=>h36 ⟨h6,by omega⟩
   subst h6
   clear h36 h37 h34 h39
   by_cases hk0:k=0
   · exact t173_5
   · exact t173_2
 · have b34:(c == 34)=false:=by simpa using h34
   have b39:(c == 39)=false:=by simpa using h39
   have b37:(c == 37)=false:=by simpa using h37
   have b36:(c == 36)=false:=by simpa using h6
   clear h36 h34 h39 h37 h6
   by_cases hk0:k=0
   · exact t173_5
   · exact t173_2
theorem infoTok16:(Tryz.prog.info? 54).map (fun i=>(i.zero,i.size,i.bytes))=some (some (.agg #[.int .i64 0,.string ⟨#[]⟩,.int .i64 0,.int .i64 0]),4,40):=by kernel_rfl
theorem t174_0 {p:Prop} (h:p:=by
 intro q u hq
 rw [addr_add]
 match q,hq with
 | 0,hq=>simp at hq; subst hq; simp [go_sem]
 | 1,hq=>simp at hq; subst hq; simp [go_sem]
 | 2,hq=>simp at hq; subst hq; simp [go_sem]
 | 3,hq=>simp at hq; subst hq; simp [go_sem]):p:=h
set_option maxHeartbeats 4000000 in
set_option maxRecDepth 100000 in
theorem toks16_any (s:ByteArray) (w:World):Calls Tryz.prog 55 #[.string s] w (TokRes (toksP s) w):=by
 obtain ⟨R,hR⟩:∃ R,toksP s=R:=⟨_,rfl⟩
 rw [hR]
 unfold toksP at hR
 by_cases hbig:1024<s.size
 · rw [if_pos hbig] at hR
   subst hR
   have hbig':(1024:Int)<(s.size:Int):=by omega
   go_enter Tryz.func55,Tryz.ntmps55
   go_wp2_with fail
   go_ret2
   exact ⟨rfl,Below.refl _ _⟩
 · rw [if_neg hbig] at hR
   have hbig':¬ (1024:Int)<(s.size:Int):=by omega
   have HR:=Hh hR; clear hR
   obtain ⟨i0,hi,hz0,hz1,hz2⟩:=info_parts infoTok16
   go_enter Tryz.func55,Tryz.ntmps55
   go_wp2_with fail
   go_loopw [4,5,6,7,8] (fun v a _ _ _ wr=>∃ (k:Nat) (acc:List Tok),k≤s.size∧acc.length≤k∧a=.int .i64 k∧wr.ownsRow w.heap.size 54 4 v acc.length (tokc acc)∧Below w.heap.size w wr∧Hid (toksGo s k acc=R)) (fun _ a _ _ _ _=>s.size+1 - (intOf a).toNat)
   case atStart=>exact ⟨0,[],Nat.zero_le _,Nat.le_refl _,rfl,World.ownsRow_nil _ _ _ _,Below.refl _ _,HR⟩
   case round =>
    obtain ⟨k,acc,hk,hac,rfl,hown,hbel,HK⟩:=hrel
    have HOWN:=Hh hown; clear hown
    have HBEL:=Hh hbel; clear hbel
    go_wp2_with fail
    go_loop [5] (fun a=>∃ j:Nat,k≤j∧j≤s.size∧a=.int .i64 j∧Hid (skipEnd s k=skipEnd s j)) (fun a=>s.size - (intOf a).toNat)
    case atStart=>exact ⟨k,Nat.le_refl _,hk,rfl,Hh rfl⟩
    case round =>
     obtain ⟨j,hkj,hj,rfl,HJ⟩:=hrel
     by_cases hlt:j<s.size
     · have hj0:(0:Int)≤(j:Int):=by omega
       have hj1:(j:Int)<(s.size:Int):=by omega
       by_cases h32:s[j]=32
       · have h32':(s[j].toNat:Int)=32:=by rw [h32]; rfl
         have hst:=skipEnd_go s j hlt (.inl h32)
         have HST:=Hh hst; clear hst h32
         go_wp2_with fail
         go_round
         case rel=>exact ⟨j+1,by omega,by omega,by go_num,Hh (by rw [HJ.out,HST.out])⟩
         case measure=>simp [intOf]; omega
       by_cases h9:s[j]=9
       · have h9':(s[j].toNat:Int)=9:=by rw [h9]; rfl
         have hst:=skipEnd_go s j hlt (.inr h9)
         have n32:((s[j].toNat:Int) == 32)=false:=by rw [h9']; rfl
         have HST:=Hh hst; clear hst h9
         clear h32
         go_wp2_with fail
         go_round
         case rel=>exact ⟨j+1,by omega,by omega,by go_num,Hh (by rw [HJ.out,HST.out])⟩
         case measure=>simp [intOf]; omega
       have hsk:skipEnd s k=j:=by rw [HJ.out]; exact skipEnd_no s j hlt (fun h=>h.elim h32 h9)
       have HSK:=Hh hsk; clear hsk HJ
       have n32:((s[j].toNat:Int) == 32)=false:=beq_eq_false_iff_ne.2 (fun h=>h32 (UInt8.toNat_inj.1 (by show s[j].toNat=32; omega)))
       have n9:((s[j].toNat:Int) == 9)=false:=beq_eq_false_iff_ne.2 (fun h=>h9 (UInt8.toNat_inj.1 (by show s[j].toNat=9; omega)))
       clear h32 h9
       have hjn:((j:Int) == (s.size:Int))=false:=by simp; omega
       by_cases h59:s[j]=59
       · have h59':((s[j].toNat:Int) == 59)=true:=by rw [h59]; rfl
         have hmo:moreAt s j=false:=by unfold moreAt; rw [←bat_get s j hlt,h59]; simp
         clear h59
         have hmore:moreAt s (skipEnd s k)=false:=by rw [HSK.out]; exact hmo
         have hend:=toksGo_end s k acc hmore
         rw [HSK.out] at hend
         have HEND:=Hh hend; clear hend hmore hmo
         obtain ⟨wo,hwo⟩:∃ wo:World,wo=wr:=⟨_,rfl⟩
         have hsz:w.heap.size≤wr.heap.size:=HBEL.out.size
         clear hwo
         go_wp2_with (at_builtin; refine wpList_append_own _ rfl _ _ 45 rfl w.heap.size 54 i0 (.agg #[.int .i64 0,.string ⟨#[]⟩,.int .i64 0,.int .i64 0]) 4 40 Tryz.underlying45 hi hz0 hz1 hz2 rfl (by decide) _ _ _ rfl (owns_below' HOWN.out (bl)) _ 1 1 [.int .i64 0,.string ⟨#[]⟩,.int .i64 0,.int .i64 j] rfl rfl ?c1 ?c2 ?c3 ?c4 ?c5 ?_)
         try case c1 =>
          exact t174_0
         case c2=>first | exact ⟨rfl,rfl,rfl,rfl⟩ | (intro u hu; simp at hu; rcases hu with rfl | rfl | rfl | rfl<;>rfl) | rfl
         case c3=>unfold maxLen; omega
         case c4=>omega
         case c5=>(first | omega | (simp [go_sem]; done) | (simp [go_sem]; omega))
         intro v' w1 hown' hgrow _
         have hb':Below w.heap.size w w1:=(HBEL.out.trans (Below.mono (show Below wr.heap.size wr _ from bl) hsz)).grown hgrow (by simp [go_sem]; omega) (by
          intro q hq
          have:=HOWN.out.2
          rcases this with ⟨h,_⟩ | ⟨g,cap,cur,h,hg,_⟩
          · rw [h] at hq; cases hq
          · rw [h] at hq; cases hq; exact hg)
         have HOWN3:=Hh hown'; clear hown'
         have HB':=Hh hb'; clear hb' hgrow
         go_wp2_with fail
         go_ret2
         rw [←HK.out,HEND.out]
         refine ⟨_,rfl,?_,HB'.out⟩
         have hrow:=Row.of_owns HOWN3.out
         rw [tokc_one] at hrow
         rw [List.length_append]; exact hrow
       · have h59':((s[j].toNat:Int) == 59)=false:=beq_eq_false_iff_ne.2 (fun h=>h59 (UInt8.toNat_inj.1 (by show s[j].toNat=59; omega)))
         have hmo:moreAt s (skipEnd s k)=true:=by rw [HSK.out]; unfold moreAt; rw [←bat_get s j hlt]; simp [hlt,h59]
         clear h59
         have hnx:=fun w=>next16_any s j w hlt (by omega)
         have hsz:w.heap.size≤wr.heap.size:=HBEL.out.size
         have hcase:(∃ e,nextP s j=.error e)∨∃ t n,nextP s j=.ok (t,n):=by
          cases nextP s j with
          | error e=>exact .inl ⟨e,rfl⟩
          | ok x=>exact .inr ⟨x.1,x.2,rfl⟩
         rcases hcase with ⟨c,hn⟩ | ⟨⟨tk,tt,tn,ta⟩,n,hn⟩
         · have herr:=toksGo_err s k acc c hmo (by rw [HSK.out]; exact hn)
           have hc0:(c != 0)=true:=by rcases nextP_err s j c hn with rfl | rfl<;>rfl
           simp only [hn,nextR] at hnx
           have HERR:=Hh herr; clear herr hmo hn
           have HNX:=Hh hnx; clear hnx
           go_wp2_with fail
           refine (HNX.out _).mono ?_
           rintro e w1 ⟨rfl,hb⟩
           obtain ⟨p1,rfl⟩:=gw_of_below hb
           clear hb
           go_wp2_with fail
           go_ret2
           rw [←HK.out,HERR.out]
           exact ⟨rfl,HBEL.out.trans (Below.mono (show Below wr.heap.size wr _ from bl) hsz)⟩
         · have hstp:=toksGo_step s k acc ⟨tk,tt,tn,ta⟩ n hmo (by rw [HSK.out]; exact hn)
           have hbd:=nextP_bd s j hlt _ n hn
           simp only [hn,nextR] at hnx
           have HSTP:=Hh hstp; clear hstp hmo hn
           have HNX:=Hh hnx; clear hnx
           obtain ⟨hb1,hb2,hb3,hb4,hb5⟩:=hbd
           go_wp2_with fail
           refine (HNX.out _).mono ?_
           rintro e w1 ⟨rfl,hb⟩
           obtain ⟨p1,rfl⟩:=gw_of_below hb
           clear hb
           go_wp2_with (at_builtin; refine wpList_append_own _ rfl _ _ 45 rfl w.heap.size 54 i0 (.agg #[.int .i64 0,.string ⟨#[]⟩,.int .i64 0,.int .i64 0]) 4 40 Tryz.underlying45 hi hz0 hz1 hz2 rfl (by decide) _ _ _ rfl (owns_below' HOWN.out (bl)) _ 1 1 [.int .i64 tk,.string tt,.int .i64 tn,.int .i64 ta] rfl rfl ?d1 ?d2 ?d3 ?d4 ?d5 ?_)
           try case d1 =>
            exact t174_0
           case d2=>first | exact ⟨rfl,rfl,rfl,rfl⟩ | (intro u hu; simp at hu; rcases hu with rfl | rfl | rfl | rfl<;>rfl) | rfl
           case d3=>unfold maxLen; omega
           case d4=>omega
           case d5=>(first | omega | (simp [go_sem]; done) | (simp [go_sem]; omega))
           intro v' w2 hown' hgrow _
           have hb':Below w.heap.size w w2:=(HBEL.out.trans (Below.mono (show Below wr.heap.size wr _ from bl) hsz)).grown hgrow (by simp [go_sem]; omega) (by
            intro q hq
            have:=HOWN.out.2
            rcases this with ⟨h,_⟩ | ⟨g,cap,cur,h,hg,_⟩
            · rw [h] at hq; cases hq
            · rw [h] at hq; cases hq; exact hg)
           have HOWN3:=Hh hown'; clear hown'
           have HB':=Hh hb'; clear hb' hgrow
           go_wp2_with fail
           go_roundw
           case rel=>exact ⟨n,acc++[⟨tk,tt,tn,ta⟩],by omega,by rw [List.length_append,List.length_singleton]; omega,rfl,by rw [←tokc_one,List.length_append]; exact HOWN3.out,HB'.out,Hh (by rw [←HSTP.out]; exact HK.out)⟩
           case measure=>simp [intOf]; omega
     · obtain rfl:j=s.size:=by omega
       have hsk:skipEnd s k=s.size:=by rw [HJ.out]; exact skipEnd_out s _ hlt
       have HSK:=Hh hsk; clear hsk HJ
       have hmo:moreAt s s.size=false:=by unfold moreAt; simp
       have hmore:moreAt s (skipEnd s k)=false:=by rw [HSK.out]; exact hmo
       have hend:=toksGo_end s k acc hmore
       rw [HSK.out] at hend
       have HEND:=Hh hend; clear hend hmore hmo
       obtain ⟨wo,hwo⟩:∃ wo:World,wo=wr:=⟨_,rfl⟩
       have hsz:w.heap.size≤wr.heap.size:=HBEL.out.size
       clear hwo
       go_wp2_with (at_builtin; refine wpList_append_own _ rfl _ _ 45 rfl w.heap.size 54 i0 (.agg #[.int .i64 0,.string ⟨#[]⟩,.int .i64 0,.int .i64 0]) 4 40 Tryz.underlying45 hi hz0 hz1 hz2 rfl (by decide) _ _ _ rfl (owns_below' HOWN.out (bl)) _ 1 1 [.int .i64 0,.string ⟨#[]⟩,.int .i64 0,.int .i64 s.size] rfl rfl ?e1 ?e2 ?e3 ?e4 ?e5 ?_)
       try case e1 =>
        exact t174_0
       case e2=>first | exact ⟨rfl,rfl,rfl,rfl⟩ | (intro u hu; simp at hu; rcases hu with rfl | rfl | rfl | rfl<;>rfl) | rfl
       case e3=>unfold maxLen; omega
       case e4=>omega
       case e5=>(first | omega | (simp [go_sem]; done) | (simp [go_sem]; omega))
       intro v' w1 hown' hgrow _
       have hb':Below w.heap.size w w1:=(HBEL.out.trans (Below.mono (show Below wr.heap.size wr _ from bl) hsz)).grown hgrow (by simp [go_sem]; omega) (by
        intro q hq
        have:=HOWN.out.2
        rcases this with ⟨h,_⟩ | ⟨g,cap,cur,h,hg,_⟩
        · rw [h] at hq; cases hq
        · rw [h] at hq; cases hq; exact hg)
       have HOWN3:=Hh hown'; clear hown'
       have HB':=Hh hb'; clear hb' hgrow
       go_wp2_with fail
       go_ret2
       rw [←HK.out,HEND.out]
       refine ⟨_,rfl,?_,HB'.out⟩
       have hrow:=Row.of_owns HOWN3.out
       rw [tokc_one] at hrow
       rw [List.length_append]; exact hrow
def KnRes8 (s:ByteArray) (w:World) (e:Ending) (w':World):Prop:=∃ v,e=.returned (.tuple #[v,.bool (knownP s).isSome])∧Row w' v ((knownP s).getD []).length (tokc ((knownP s).getD []))∧Below w.heap.size w w'
set_option maxHeartbeats 1000000 in
set_option maxRecDepth 100000 in
theorem known18_any (s:ByteArray) (w:World) (hs:s.size≤maxLen):Calls Tryz.prog 17 #[.string s] w (KnRes8 s w):=by
 unfold maxLen at hs
 by_cases h2:200<s.size
 · have hK:knownP s=none:=by unfold knownP; rw [if_pos h2]
   have HK:=Hh hK; clear hK
   have h2':(200:Int)<(s.size:Int):=by omega
   go_enter Tryz.func17,Tryz.ntmps17
   go_wp2_with fail
   refine bodyPost_ret (v:=.tuple #[.slice none 0 0,.bool false]) (by simp [results,Tryz.results17,go_sem]) rfl ?_
   exact ⟨_,by rw [HK.out]; rfl,by rw [HK.out]; exact Row.nil _,bl⟩
 · have h2':¬ (200:Int)<(s.size:Int):=by omega
   have htk:=fun w=>toks16_any s w
   unfold TokRes at htk
   rcases ht:toksP s with c | l
   · rw [ht] at htk
     have hK:knownP s=none:=by unfold knownP; rw [if_neg h2,ht]
     have hc:(c != 0)=true:=by rcases toksP_code ht with rfl | rfl | rfl<;>rfl
     have HK:=Hh hK; clear hK ht
     have HTK:=Hh htk; clear htk
     go_enter Tryz.func17,Tryz.ntmps17
     go_wp2_with fail
     (with_reducible refine (HTK.out _).mono ?_)
     rintro e w1 ⟨rfl,hb1⟩
     obtain ⟨p1,rfl⟩:=gw_of_below hb1
     clear hb1
     go_wp2_with fail
     refine bodyPost_ret (v:=.tuple #[.slice none 0 0,.bool false]) (by simp [results,Tryz.results17,go_sem]) rfl ?_
     exact ⟨_,by rw [HK.out]; rfl,by rw [HK.out]; exact Row.nil _,bl⟩
   · rw [ht] at htk
     have hok:=toksP_ok ht
     have hK:knownP s=some l.dropLast:=by unfold knownP; rw [if_neg h2,ht]
     have HK:=Hh hK; clear hK ht
     have HTK:=Hh htk; clear htk
     have hl1:(1:Int)≤(l.length:Int):=by omega
     have hl2:(l.length:Int)≤1025:=by omega
     go_enter Tryz.func17,Tryz.ntmps17
     go_wp2_with fail
     (with_reducible refine (HTK.out _).mono ?_)
     rintro e w1 ⟨v,rfl,hrow,hb1⟩
     obtain ⟨p1,rfl⟩:=gw_of_below hb1
     clear hb1
     obtain ⟨g,o,cap,rfl,hcap,hg,htk,hsub⟩:=hrow.tok2 (by rintro rfl; simp at hl1)
     have hrs:=hsub 0 (l.length - 1) (some ⟨g,o,none⟩) cap (Nat.zero_le _) (by omega) (fun _=>by simp) (by omega)
     rw [dropLast_part,Nat.sub_zero] at hrs
     have HRS:=Hh hrs; clear hrs hsub htk hrow
     have hc1:(l.length:Int)≤(cap:Int):=by omega
     go_wp2_with fail
     refine bodyPost_ret (v:=.tuple #[.slice (some ⟨g,o,none⟩) (l.length - 1) cap,.bool true]) (by simp [results,Tryz.results17,go_sem]) rfl ?_
     exact ⟨_,by rw [HK.out]; rfl,by rw [HK.out]; exact HRS.out,bl⟩
end Go.Proofs.YtkldoojonnkfgaaGreatDoor
