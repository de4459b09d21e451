/- Joined texts: ReadP, LexC. -/
import Derived.Test.YtkldoojonnkfgaaGreatDoorC42
namespace Go.Proofs.YtkldoojonnkfgaaGreatDoor
open Go.RowKit Go.Sort
def wordP (s:ByteArray) (i:Nat):Option (Except Int (Tok × Nat)):=if i<wordEnd s i then some (.ok (⟨1,sub s i (wordEnd s i),0,i⟩,wordEnd s i)) else none
def numberP (s:ByteArray) (i:Nat):Option (Except Int (Tok × Nat)) :=
 if isNumAt s i=true then some (match numP (sub s i (runEnd s (i+1))) with | some x=>.ok (⟨2,⟨#[]⟩,x,i⟩,runEnd s (i+1)) | none=>.error 3) else none
def textP (s:ByteArray) (i:Nat):Option (Except Int (Tok × Nat)) :=
 if bat s i=34∨bat s i=39 then some (match quotedP s i with | some (t,e)=>.ok (⟨3,t,0,i⟩,e) | none=>.error 3) else none
def signP (s:ByteArray) (i:Nat):Option (Except Int (Tok × Nat)):=some (if signLen s i=0 then .error 20 else .ok (⟨4,sub s i (i+signLen s i),0,i⟩,i+signLen s i))
theorem nextP_eq (s:ByteArray) (i:Nat):some (nextP s i)=(wordP s i).or ((numberP s i).or ((textP s i).or (signP s i))):=by
 unfold nextP wordP numberP textP signP
 repeat' split
 all_goals first | rfl | (simp_all; done)
theorem wordEnd_let (s:ByteArray) (i:Nat):i<wordEnd s i↔isLet (bat s i)=true∧i<s.size:=by
 by_cases hlt:i<s.size
 · unfold wordEnd
   rw [dif_pos hlt,bat_get s i hlt]
   by_cases hl:isLet (bat s i)=true
   · rw [if_pos hl]
     have h1:runEnd s i=runEnd s (i+1):=runEnd_go s i hlt (by unfold isW; rw [bat_get s i hlt,hl]; rfl)
     have h2:=runEnd_ge s (i+1)
     constructor
     · intro _; exact ⟨hl,hlt⟩
     · intro _
       repeat' split
       all_goals omega
   · rw [if_neg hl]
     constructor
     · intro h; omega
     · intro h; exact absurd h.1 hl
 · unfold wordEnd
   rw [dif_neg hlt]
   constructor
   · intro h; omega
   · intro h; exact absurd h.2 hlt
theorem bat_out (s:ByteArray) (i:Nat) (h:¬ i<s.size):bat s i=0:=by
 unfold bat; rw [Array.getElem?_eq_none (by show s.data.size≤i; have:s.data.size=s.size:=rfl; omega)]; rfl
theorem isLet_lt (s:ByteArray) (i:Nat) (h:isLet (bat s i)=true):i<s.size:=by
 by_cases hlt:i<s.size
 · exact hlt
 · rw [bat_out s i hlt] at h; cases h
theorem extract_snoc (s:ByteArray) (i j:Nat) (hij:i≤j) (hj:j<s.size):s.extract i j++⟨#[bat s j]⟩=s.extract i (j+1):=by
 rw [←bat_get s j hj]
 apply ByteArray.ext
 apply Array.ext'
 simp only [ByteArray.data_append,ByteArray.data_extract,Array.toList_append,Array.toList_extract,List.extract_eq_take_drop]
 have e:j+1 - i=(j - i)+1:=by omega
 rw [e,List.take_add_one,List.getElem?_drop]
 congr 1
 have:i+(j - i)=j:=by omega
 rw [this,List.getElem?_eq_getElem (by simpa using hj)]
 simp; rfl
theorem wordP_yes (s:ByteArray) (i:Nat) (h:isLet (bat s i)=true):wordP s i=some (.ok (⟨1,sub s i (wordEnd s i),0,i⟩,wordEnd s i)):=by
 unfold wordP; rw [if_pos ((wordEnd_let s i).2 ⟨h,isLet_lt s i h⟩)]
theorem wordP_no (s:ByteArray) (i:Nat) (h:isLet (bat s i)=false):wordP s i=none:=by
 unfold wordP; rw [if_neg (fun h2=>by rw [((wordEnd_let s i).1 h2).1] at h; cases h)]
theorem wordEnd_eq (s:ByteArray) (i:Nat) (h:isLet (bat s i)=true):wordEnd s i=if (upper (sub s i (runEnd s i))).toList=[65,70]∧bat s (runEnd s i)=39 then runEnd s i+1 else runEnd s i:=by
 have hlt:=isLet_lt s i h
 unfold wordEnd
 rw [dif_pos hlt,bat_get s i hlt,if_pos h]
 by_cases h2:runEnd s i<s.size
 · rw [dif_pos h2,bat_get s _ h2]
 · rw [dif_neg h2,if_neg]
   rw [bat_out s _ h2]
   rintro ⟨_,h3⟩
   cases h3
def ReadRes (x:Option (Except Int (Tok × Nat))) (s:ByteArray) (i b:Nat) (t:Tok) (w:World) (e:Ending) (w':World):Prop :=
 Kb b w w'∧match x with
 | none=>e=.returned (.tuple #[.bool false,.int .i64 0])∧LexAt w' b s i t
 | some (.error c)=>e=.returned (.tuple #[.bool true,.int .i64 c])∧∃ (j:Nat) (u:Tok),j≤s.size∧LexAt w' b s j u
 | some (.ok y)=>e=.returned (.tuple #[.bool true,.int .i64 0])∧LexAt w' b s y.2 { y.1 with off:=0 }
theorem LexAt.cast {w:World} {b:Nat} {s:ByteArray} {i i':Int} {t t':Tok} (h:LexAt w b s i' t') (hi:i'=i) (ht:t'=t):LexAt w b s i t:=by subst hi ht; exact h
set_option maxHeartbeats 2000000 in
set_option maxRecDepth 100000 in
theorem lexWord_any (s:ByteArray) (i b:Nat) (t:Tok) (w:World) (hL:LexAt w b s i t) (hi:i≤s.size) (hs:s.size≤1000000) :
 Calls Tryz.prog 98 #[.pointer (some ⟨b,0,none⟩)] w (ReadRes (wordP s i) s i b t w):=by
 have hpk:=peek_any s i b t w hL
 have hlet:=fun w=>isLetter_any (bat s i) w
 rcases h:isLet (bat s i) with _ | _
 · rw [wordP_no s i h]
   rw [h] at hlet
   have HLET:=Hh hlet; clear hlet h
   have HPK:=Hh hpk; clear hpk
   have HL:=Hh hL; clear hL
   go_enter Tryz.func98,Tryz.ntmps98
   go_wp2_with fail
   refine HPK.out.mono ?_
   rintro e w1 ⟨rfl,hb⟩
   obtain ⟨p1,rfl⟩:=gw_of_below hb
   clear hb
   go_wp2_with fail
   refine (HLET.out _).mono ?_
   rintro e w1 ⟨rfl,rfl⟩
   go_wp2_with fail
   go_ret2
   exact ⟨(Kb.refl _ _).gw _,rfl,HL.out.gw _⟩
 · rw [wordP_yes s i h]
   have hwe:=wordEnd_eq s i h
   have hr1:=runEnd_ge s i
   have hr2:=runEnd_le s i hi
   obtain ⟨W,hW⟩:∃ W,wordEnd s i=W:=⟨_,rfl⟩
   obtain ⟨r,hr⟩:∃ r,runEnd s i=r:=⟨_,rfl⟩
   have hrun:=fun w hL=>run_any s i b t w hL hi hs
   rw [hW,hr] at hwe
   rw [hr] at hr1 hr2
   simp only [hr] at hrun
   rw [hW]
   have hup:=fun w=>upper_any (sub s i r) w (by unfold sub maxLen; rw [ByteArray.size_extract]; omega)
   have hss:(sub s i r).size≤1000000:=by unfold sub; rw [ByteArray.size_extract]; omega
   rw [h] at hlet
   have HLET:=Hh hlet; clear hlet h
   have HPK:=Hh hpk; clear hpk
   have HL:=Hh hL; clear hL
   have HRUN:=Hh hrun; clear hrun hW hr
   have HUP:=Hh hup; clear hup
   have HWE:=Hh hwe; clear hwe
   obtain ⟨U,hU⟩:∃ U,upper (sub s i r)=U:=⟨_,rfl⟩
   rw [hU] at HUP HWE
   clear hU
   go_enter Tryz.func98,Tryz.ntmps98
   go_wp2_with fail
   refine HPK.out.mono ?_
   rintro e w1 ⟨rfl,hb⟩
   obtain ⟨p1,rfl⟩:=gw_of_below hb
   clear hb
   go_wp2_with fail
   refine (HLET.out _).mono ?_
   rintro e w1 ⟨rfl,rfl⟩
   go_wp2_with fail
   refine (HRUN.out _ (HL.out.gw _)).mono ?_
   rintro e w1 ⟨rfl,hL1,hK1⟩
   have hpk1:=fun w hL=>peek_any s r b t w hL
   obtain ⟨c0,c1,c2,c3,c4,c5,hb,f0,f1,f2,f3,f4,f5⟩:=hL1.facts
   have HPK1:=Hh hpk1; clear hpk1
   have HL1:=Hh hL1; clear hL1
   have HK1:=Hh (((Kb.refl b w).gw p1).trans hK1); clear hK1
   go_wp2_with fail
   refine (HUP.out _).mono ?_
   rintro e w2 ⟨rfl,hb2⟩
   obtain ⟨p2,rfl⟩:=gw_of_below hb2
   clear hb2
   have hb2:b<w1.heap.size+p2.os.size:=by omega
   rcases hAF:(U.toList == [65,70]) with _ | _
   · have hres:W=r:=by rw [HWE.out,if_neg (fun h2=>by rw [h2.1] at hAF; cases hAF)]
     go_wp2_with fail
     go_ret2
     subst hres
     exact ⟨((((HK1.out.setCell 2 _).setCell 3 _).setCell 4 _).setCell 5 _).gw _,rfl,((((HL1.out.kind 1).text _).n 0).off 0).gw _⟩
   · obtain ⟨c,hc⟩:∃ c:Int,((bat s r).toNat:Int)=c:=⟨_,rfl⟩
     have hc39:(bat s r=39)↔c=39:=by rw [←hc,←UInt8.toNat_inj]; show (bat s r).toNat=39↔_; omega
     have hHP:∀ w,LexAt w b s r t→Calls Tryz.prog 97 #[.pointer (some ⟨b,0,none⟩)] w fun e w'=>e=.returned (.int .u8 c)∧Below w.heap.size w w':=fun w h=>by rw [←hc]; exact HPK1.out w h
     have HPK2:=Hh hHP; clear hHP HPK1
     by_cases hq:c=39
     · have hres:W=r+1:=by rw [HWE.out,if_pos ⟨by simpa using hAF,hc39.2 hq⟩]
       have hrs:r<s.size:=by
        rcases Nat.lt_or_ge r s.size with h | h
        · exact h
        · exfalso; rw [bat_out s r (by omega)] at hc; rw [←hc] at hq; cases hq
       have hext:sub s i r++⟨#[39]⟩=sub s i (r+1):=by
        have:=extract_snoc s i r (by omega) hrs
        rw [hc39.2 hq] at this; exact this
       have HEXT:=Hh hext; clear hext hc39 hc
       subst hq
       go_wp2_with fail
       refine (HPK2.out _ (HL1.out.gw _)).mono ?_
       rintro e w3 ⟨rfl,hb3⟩
       obtain ⟨p3,rfl⟩:=gw_of_below hb3
       clear hb3
       have hb3:b<w1.heap.size+p2.os.size+p3.os.size:=by omega
       go_wp2_with fail
       go_ret2
       subst hres
       refine ⟨((((((HK1.out.setCell 1 _).setCell 2 _).setCell 3 _).setCell 4 _).setCell 5 _).gw _).gw _,rfl,?_⟩
       have:=(((((((HL1.out.at ((r:Int)+1)).kind 1).text (sub s i r++⟨#[39]⟩)).n 0).off 0).gw p2).gw p3)
       rw [HEXT.out] at this ⊢
       exact this.cong (by simp)
     · have hres:W=r:=by rw [HWE.out,if_neg (fun h2=>hq (hc39.1 h2.2))]
       have hq':(c == 39)=false:=by simpa using hq
       clear hc39 hc hq
       go_wp2_with fail
       refine (HPK2.out _ (HL1.out.gw _)).mono ?_
       rintro e w3 ⟨rfl,hb3⟩
       obtain ⟨p3,rfl⟩:=gw_of_below hb3
       clear hb3
       have hb3:b<w1.heap.size+p2.os.size+p3.os.size:=by omega
       go_wp2_with fail
       go_ret2
       subst hres
       exact ⟨(((((HK1.out.setCell 2 _).setCell 3 _).setCell 4 _).setCell 5 _).gw _).gw _,rfl,(((((HL1.out.kind 1).text _).n 0).off 0).gw _).gw _⟩
theorem sub2_hasPrefix (s:ByteArray) (i:Nat) (a b:UInt8) (hi:i≤s.size):Lib.hasPrefix (sub s i s.size).data.toList [a,b]=(decide (i+1<s.size) && ((sub s i (i+2)).toList == [a,b])):=by
 unfold Lib.hasPrefix sub
 rw [ByteArray.toList_eq]
 have e1:(s.extract i s.size).data.toList=s.data.toList.drop i:=by
  simp only [ByteArray.data_extract,Array.toList_extract,List.extract_eq_take_drop]
  exact List.take_of_length_le (by simp)
 have e2:(s.extract i (i+2)).data.toList=(s.data.toList.drop i).take 2:=by
  simp only [ByteArray.data_extract,Array.toList_extract,List.extract_eq_take_drop]
  rw [show i+2 - i=2 by omega]
 rw [e1,e2]
 have hl:s.size=s.data.toList.length:=by simp
 have hd:(s.data.toList.drop i).length=s.size - i:=by simp
 generalize s.data.toList.drop i=l at hd ⊢
 rcases l with _ | ⟨x,_ | ⟨y,l⟩⟩
 · simp
 · simp at hd
   have:¬ i+1<s.size:=by omega
   simp [this,List.isPrefixOf]
 · simp at hd
   have:i+1<s.size:=by omega
   simp [this,List.isPrefixOf_cons_cons]
   rw [Bool.eq_iff_iff]; simp; constructor<;>(rintro ⟨h1,h2⟩; exact ⟨h1.symm,h2.symm⟩)
theorem signs_idx:∀ n:Fin 256,decide (0≤Lib.indexByte [44,40,41,43,45,42,47,38,124,94,126,58,61,36] (UInt8.ofNat n.val))=decide (UInt8.ofNat n.val∈signs1):=by decide +kernel
theorem signLen_eq (s:ByteArray) (i:Nat) (hi:i≤s.size):signLen s i=if Lib.hasPrefix (sub s i s.size).data.toList [60,60]=true∨Lib.hasPrefix (sub s i s.size).data.toList [62,62]=true then 2 else if 0≤Lib.indexByte [44,40,41,43,45,42,47,38,124,94,126,58,61,36] (bat s i) then 1 else 0:=by
 rw [sub2_hasPrefix s i 60 60 hi,sub2_hasPrefix s i 62 62 hi]
 have hc:=signs_idx ⟨(bat s i).toNat,(bat s i).toNat_lt⟩
 simp only [UInt8.ofNat_toNat] at hc
 rw [decide_eq_decide] at hc
 unfold signLen
 simp only [Bool.and_eq_true,decide_eq_true_eq,beq_iff_eq,←and_or_left,hc]
 by_cases hlt:i<s.size
 · simp only [dif_pos hlt,bat_get s i hlt]
 · rw [dif_neg hlt,bat_out s i hlt]
   simp [signs1]
theorem sub_sub (s:ByteArray) (i k:Nat) (h:i+k≤s.size):(sub s i s.size).extract 0 k=sub s i (i+k):=by
 unfold sub
 apply ByteArray.ext
 apply Array.ext'
 simp only [ByteArray.data_extract,Array.toList_extract,List.extract_eq_take_drop,List.drop_zero,Nat.sub_zero]
 rw [List.take_take]
 congr 1
 have:s.data.size=s.size:=rfl
 omega
set_option maxHeartbeats 4000000 in
set_option maxRecDepth 100000 in
theorem sign_any (s:ByteArray) (i b:Nat) (t:Tok) (w:World) (hL:LexAt w b s i t) (hi:i≤s.size) (hs:s.size≤1000000) :
 Calls Tryz.prog 101 #[.pointer (some ⟨b,0,none⟩)] w (ReadRes (signP s i) s i b t w):=by
 obtain ⟨Q,hQ⟩:∃ Q,signP s i=Q:=⟨_,rfl⟩
 rw [hQ]
 unfold signP at hQ
 have hk2:i+signLen s i≤s.size∨signLen s i=0:=by
  by_cases hlt:i<s.size
  · exact .inl (signLen_le s i hlt).1
  · right; unfold signLen; rw [if_neg (by omega),dif_neg hlt]
 have hsl:=signLen_eq s i hi
 have hpk:=fun w hL=>peek_any s i b t w hL
 have hrest:=fun w hL=>rest_any s i b t w hL hi
 obtain ⟨S,hS⟩:∃ S,sub s i s.size=S:=⟨_,rfl⟩
 have hSs:S.size=s.size - i:=by rw [←hS]; unfold sub; rw [ByteArray.size_extract]; omega
 have hsub:∀ k,i+k≤s.size→S.extract 0 k=sub s i (i+k):=fun k h=>by rw [←hS]; exact sub_sub s i k h
 rw [hS] at hsl
 simp only [hS] at hrest
 have hp1:=fun w=>Tryz.strings_HasPrefix S ⟨#[60,60]⟩ w
 have hp2:=fun w=>Tryz.strings_HasPrefix S ⟨#[62,62]⟩ w
 obtain ⟨P1,hP1⟩:∃ P,Lib.hasPrefix S.data.toList [60,60]=P:=⟨_,rfl⟩
 obtain ⟨P2,hP2⟩:∃ P,Lib.hasPrefix S.data.toList [62,62]=P:=⟨_,rfl⟩
 simp only [hP1] at hp1
 simp only [hP2] at hp2
 have hidx:=fun w=>Tryz.strings_IndexByte ⟨#[44,40,41,43,45,42,47,38,124,94,126,58,61,36]⟩ ((bat s i).toNat:Int) w
 have e1:(((bat s i).toNat:Int).toNat.toUInt8)=bat s i:=by rw [Int.toNat_natCast]; exact UInt8.ofNat_toNat
 simp only [e1] at hidx
 obtain ⟨q,hq⟩:∃ q,Lib.indexByte [44,40,41,43,45,42,47,38,124,94,126,58,61,36] (bat s i)=q:=⟨_,rfl⟩
 simp only [hq] at hidx
 rw [hP1,hP2,hq] at hsl
 obtain ⟨c,hc⟩:∃ c:Int,((bat s i).toNat:Int)=c:=⟨_,rfl⟩
 simp only [hc] at hidx hpk
 obtain ⟨k,hk⟩:∃ k,signLen s i=k:=⟨_,rfl⟩
 rw [hk] at hsl hk2 hQ
 obtain ⟨c0,c1,c2,c3,c4,c5,hb,f0,f1,f2,f3,f4,f5⟩:=hL.facts
 have hb1:∀ p:Regrown,b<w.heap.size+p.os.size:=fun p=>by omega
 have hi0:(0:Int)≤(i:Int):=by omega
 have hi1:(i:Int)≤(s.size:Int):=by omega
 clear e1 hq hc hP1 hP2 hS hk
 have HL:=Hh hL; clear hL
 have HPK:=Hh hpk; clear hpk
 have HREST:=Hh hrest; clear hrest
 have HP1:=Hh hp1; clear hp1
 have HP2:=Hh hp2; clear hp2
 have HI:=Hh hidx; clear hidx
 have HSUB:=Hh hsub; clear hsub
 have HB:=Hh hb1; clear hb1
 rcases P1 with _ | _
 · rcases P2 with _ | _
   · rw [if_neg (by simp)] at hsl
     by_cases hq0:0≤q
     · rw [if_pos hq0] at hsl
       subst hsl
       have hk3:i+1≤s.size:=by omega
       have hS2:1≤S.size:=by omega
       have hS3:(1:Int)≤(S.size:Int):=by omega
       rw [if_neg (by decide)] at hQ
       have HQ:=Hh hQ; clear hQ hk2 hSs
       go_enter Tryz.func101,Tryz.ntmps101
       go_wp2_with fail
       refine (HREST.out _ (HL.out)).mono ?_
       rintro e w1 ⟨rfl,hb1⟩
       obtain ⟨p1,rfl⟩:=gw_of_below hb1
       clear hb1
       have hb1:b<w.heap.size+p1.os.size:=by omega
       go_wp2_with fail
       refine (HP1.out _).mono ?_
       rintro e w1 ⟨rfl,rfl⟩
       go_wp2_with fail
       refine (HREST.out _ ((HL.out).gw _)).mono ?_
       rintro e w1 ⟨rfl,hb2⟩
       obtain ⟨p2,rfl⟩:=gw_of_below hb2
       clear hb2
       have hb2:b<w.heap.size+p1.os.size+p2.os.size:=by omega
       go_wp2_with fail
       refine (HP2.out _).mono ?_
       rintro e w1 ⟨rfl,rfl⟩
       go_wp2_with fail
       refine (HPK.out _ (((HL.out).gw _).gw _)).mono ?_
       rintro e w1 ⟨rfl,hb3⟩
       obtain ⟨p3,rfl⟩:=gw_of_below hb3
       clear hb3
       have hb3:b<w.heap.size+p1.os.size+p2.os.size+p3.os.size:=by omega
       go_wp2_with fail
       refine (HI.out _).mono ?_
       rintro e w1 ⟨rfl,rfl⟩
       go_wp2_with fail
       refine (HREST.out _ ((((HL.out).gw _).gw _).gw _)).mono ?_
       rintro e w1 ⟨rfl,hb4⟩
       obtain ⟨p4,rfl⟩:=gw_of_below hb4
       clear hb4
       have hb4:b<w.heap.size+p1.os.size+p2.os.size+p3.os.size+p4.os.size:=by omega
       go_wp2_with fail
       go_ret2
       rw [←HQ.out]
       refine ⟨kbq,rfl,?_⟩
       refine LexAt.cast (lxq) ?_ ?_
       · simp
       · rw [HSUB.out 1 (by omega)]
     · rw [if_neg hq0] at hsl
       subst hsl
       rw [if_pos rfl] at hQ
       have HQ:=Hh hQ; clear hQ hk2 hSs
       go_enter Tryz.func101,Tryz.ntmps101
       go_wp2_with fail
       refine (HREST.out _ (HL.out)).mono ?_
       rintro e w1 ⟨rfl,hb1⟩
       obtain ⟨p1,rfl⟩:=gw_of_below hb1
       clear hb1
       have hb1:b<w.heap.size+p1.os.size:=by omega
       go_wp2_with fail
       refine (HP1.out _).mono ?_
       rintro e w1 ⟨rfl,rfl⟩
       go_wp2_with fail
       refine (HREST.out _ ((HL.out).gw _)).mono ?_
       rintro e w1 ⟨rfl,hb2⟩
       obtain ⟨p2,rfl⟩:=gw_of_below hb2
       clear hb2
       have hb2:b<w.heap.size+p1.os.size+p2.os.size:=by omega
       go_wp2_with fail
       refine (HP2.out _).mono ?_
       rintro e w1 ⟨rfl,rfl⟩
       go_wp2_with fail
       refine (HPK.out _ (((HL.out).gw _).gw _)).mono ?_
       rintro e w1 ⟨rfl,hb3⟩
       obtain ⟨p3,rfl⟩:=gw_of_below hb3
       clear hb3
       have hb3:b<w.heap.size+p1.os.size+p2.os.size+p3.os.size:=by omega
       go_wp2_with fail
       refine (HI.out _).mono ?_
       rintro e w1 ⟨rfl,rfl⟩
       go_wp2_with fail
       go_ret2
       rw [←HQ.out]
       exact ⟨kbq,rfl,i,t,by omega,lxq⟩
   · rw [if_pos (.inr rfl)] at hsl
     subst hsl
     have hk3:i+2≤s.size:=by omega
     have hS2:2≤S.size:=by omega
     have hS3:(2:Int)≤(S.size:Int):=by omega
     rw [if_neg (by decide)] at hQ
     have HQ:=Hh hQ; clear hQ hk2 hSs
     go_enter Tryz.func101,Tryz.ntmps101
     go_wp2_with fail
     refine (HREST.out _ (HL.out)).mono ?_
     rintro e w1 ⟨rfl,hb1⟩
     obtain ⟨p1,rfl⟩:=gw_of_below hb1
     clear hb1
     have hb1:b<w.heap.size+p1.os.size:=by omega
     go_wp2_with fail
     refine (HP1.out _).mono ?_
     rintro e w1 ⟨rfl,rfl⟩
     go_wp2_with fail
     refine (HREST.out _ ((HL.out).gw _)).mono ?_
     rintro e w1 ⟨rfl,hb2⟩
     obtain ⟨p2,rfl⟩:=gw_of_below hb2
     clear hb2
     have hb2:b<w.heap.size+p1.os.size+p2.os.size:=by omega
     go_wp2_with fail
     refine (HP2.out _).mono ?_
     rintro e w1 ⟨rfl,rfl⟩
     go_wp2_with fail
     refine (HREST.out _ (((HL.out).gw _).gw _)).mono ?_
     rintro e w1 ⟨rfl,hb3⟩
     obtain ⟨p3,rfl⟩:=gw_of_below hb3
     clear hb3
     have hb3:b<w.heap.size+p1.os.size+p2.os.size+p3.os.size:=by omega
     go_wp2_with fail
     go_ret2
     rw [←HQ.out]
     refine ⟨kbq,rfl,?_⟩
     refine LexAt.cast (lxq) ?_ ?_
     · simp
     · rw [HSUB.out 2 (by omega)]
 · rw [if_pos (.inl rfl)] at hsl
   subst hsl
   have hk3:i+2≤s.size:=by omega
   have hS2:2≤S.size:=by omega
   have hS3:(2:Int)≤(S.size:Int):=by omega
   rw [if_neg (by decide)] at hQ
   have HQ:=Hh hQ; clear hQ hk2 hSs
   go_enter Tryz.func101,Tryz.ntmps101
   go_wp2_with fail
   refine (HREST.out _ (HL.out)).mono ?_
   rintro e w1 ⟨rfl,hb1⟩
   obtain ⟨p1,rfl⟩:=gw_of_below hb1
   clear hb1
   have hb1:b<w.heap.size+p1.os.size:=by omega
   go_wp2_with fail
   refine (HP1.out _).mono ?_
   rintro e w1 ⟨rfl,rfl⟩
   go_wp2_with fail
   refine (HREST.out _ ((HL.out).gw _)).mono ?_
   rintro e w1 ⟨rfl,hb2⟩
   obtain ⟨p2,rfl⟩:=gw_of_below hb2
   clear hb2
   have hb2:b<w.heap.size+p1.os.size+p2.os.size:=by omega
   go_wp2_with fail
   go_ret2
   rw [←HQ.out]
   refine ⟨kbq,rfl,?_⟩
   refine LexAt.cast (lxq) ?_ ?_
   · simp
   · rw [HSUB.out 2 (by omega)]
end Go.Proofs.YtkldoojonnkfgaaGreatDoor
