/- Joined texts: Lists, TokI. -/
import Derived.Test.YtkldoojonnkfgaaGreatDoorB16
import Derived.Test.YtkldoojonnkfgaaGreatDoorB18
namespace Go.Proofs.YtkldoojonnkfgaaGreatDoor
open Go.RowKit Go.Sort
theorem texts_succ (l:List Op3) (j:Nat) (x:Op3) (h:l[j]? = some x):texts (l.take (j+1))=texts (l.take j)++[opText x.1 x.2.1 x.2.2]:=by
 rw [List.take_add_one,h]
 simp [texts]
set_option maxHeartbeats 1000000 in
set_option maxRecDepth 100000 in
theorem list_any (v1:Value) (l:List Op3) (w:World) (h1:Row w v1 l.length (opc l)) (hl:l.length≤1000) (hT:Tabs w) :
 Calls Tryz.prog 41 #[v1] w fun e w'=>e=.returned (.string (listS l))∧Below w.heap.size w w':=by
 obtain ⟨i0,hi,hz0,hz1,hz2⟩:=info_parts Tryz.infoString
 obtain ⟨a1,c1,rfl,hc1,h1⟩:=h1.op
 obtain ⟨B,hB⟩:∃ B,w.heap.size=B:=⟨_,rfl⟩
 have HT:=Hh hT; clear hT
 have H1:=Hh h1; clear h1
 have HB:=Hh hB; clear hB
 go_enter Tryz.func41,Tryz.ntmps41
 go_wp2_with fail
 go_loopw [3,8] (fun v i wr=>∃ j:Nat,j≤l.length∧i=.int .i64 j∧wr.ownsRow B 9 1 v j (strc (texts (l.take j)))∧Below B w wr) (fun _ i _=>l.length - (intOf i).toNat)
 case atStart=>exact ⟨0,Nat.zero_le _,rfl,World.ownsRow_nil _ _ _ _,Below.refl _ _⟩
 case round =>
  obtain ⟨j,hj,rfl,hown,hbel⟩:=hrel
  have HOWN:=Hh hown; clear hown
  have HBEL:=Hh hbel; clear hbel
  by_cases hlt:j<l.length
  · obtain ⟨⟨x0,x1,x2⟩,hx⟩:∃ x,l[j]? = some x:=⟨_,List.getElem?_eq_getElem hlt⟩
    obtain ⟨g,o,rfl,hg,hc⟩:=H1.out (by intro e; rw [e] at hlt; exact absurd hlt (Nat.not_lt_zero _))
    obtain ⟨cx0,cx1,cx2⟩:=hc j _ hx
    clear hc
    rw [←HBEL.out.cell (p:=⟨_,_,none⟩) (by rw [←HB.out]; exact hg)] at cx0 cx1 cx2
    have Hx:=Hh hx; clear hx
    have hi0:(0:Int)≤(j:Int):=by omega
    have hi1:(j:Int)<(l.length:Int):=by omega
    go_wp2_with fail
    refine (text_any x0 x1 x2 _ ((HT.out.below (by rw [HB.out]; exact HBEL.out)).below (bl))).mono ?_
    rintro e w1 ⟨rfl,hb⟩
    obtain ⟨p1,rfl⟩:=gw_of_below hb
    clear hb
    go_wp2_with (at_builtin; refine wpList_append_own _ rfl _ _ 72 rfl B 9 i0 (.string ⟨#[]⟩) 1 16 Tryz.underlying72 hi hz0 hz1 hz2 rfl (by decide) _ _ _ rfl (owns_below' HOWN.out (bl)) _ 1 1 [.string (opText x0 x1 x2)] rfl rfl ?c1 ?c2 ?c3 ?c4 ?c5 ?_)
    case c1 =>
     intro q u hq
     rw [addr_add]
     match q,hq with
     | 0,hq=>simp at hq; subst hq; simp [go_sem]
    case c2=>intro u hu; simp at hu; subst hu; rfl
    case c3=>unfold maxLen; omega
    case c4=>omega
    case c5=>have:=HBEL.out.size; have:=HB.out; simp [go_sem]; omega
    intro v' w1 hown' hgrow _
    have hsz:B≤wr.heap.size:=by have:=HBEL.out.size; have:=HB.out; omega
    have hb':Below B w w1:=(HBEL.out.trans (Below.mono (show Below wr.heap.size wr _ from bl) hsz)).grown hgrow (by simp [go_sem]; omega) (by
     intro q hq
     have:=HOWN.out.2
     rcases this with ⟨h,_⟩ | ⟨g,cap,cur,h,hg,_⟩
     · rw [h] at hq; cases hq
     · rw [h] at hq; cases hq; exact hg)
    have HOWN3:=Hh hown'; clear hown'
    have HB':=Hh hb'; clear hb' hgrow
    go_wp2_with fail
    go_roundw
    case rel=>exact ⟨j+1,by omega,by go_num,by rw [texts_succ l j _ Hx.out,strc_append]; exact HOWN3.out,HB'.out⟩
    case measure=>simp [intOf]; omega
  · obtain rfl:j=l.length:=by omega
    have hrow:=Row.of_owns HOWN.out
    rw [List.take_length] at hrow
    obtain ⟨a2,c2,rfl,hc2,hr⟩:=hrow
    have HR:=Hh hr; clear hr
    have hjoin:Calls Tryz.prog 70 #[.slice a2 l.length c2,.string ⟨#[44]⟩] wr fun e w'=>e=.returned (.string (listS l))∧Below wr.heap.size wr w':=by
     by_cases hnil:l=[]
     · subst hnil
       exact (Tryz.strings_Join_none a2 c2 ⟨#[44]⟩ wr).mono fun e w' ⟨he,hw⟩=>⟨he,hw ▸ Below.refl _ _⟩
     · have hlen:(texts l).length=l.length:=by simp [texts]
       obtain ⟨g,o,rfl,hg,hcs⟩:=HR.out (by intro e; have h2:=strc_len (texts l); rw [e,hlen] at h2; exact hnil (List.eq_nil_of_length_eq_zero h2.symm))
       have hj:=Tryz.strings_Join g o c2 (texts l) ⟨#[44]⟩ wr (fun j x hx=>by
        have hjl:j<(texts l).length:=(List.getElem?_eq_some_iff.1 hx).1
        rw [hcs j (by rw [strc_len]; exact hjl)]
        simp [strc,hx]) hg (by omega) (by omega) (by have:=join_len l; show (Lib.join ((texts l).map (·.data.toList)) [44]).length≤_; omega)
       rw [hlen] at hj
       exact hj
    go_wp2_with fail
    refine hjoin.mono ?_
    rintro e w1 ⟨rfl,hb⟩
    obtain ⟨p1,rfl⟩:=gw_of_below hb
    clear hb
    go_wp2_with fail
    go_ret
    refine ⟨rfl,?_⟩
    rw [HB.out]
    exact HBEL.out.trans (Below.mono (show Below wr.heap.size wr _ from bl) (by have:=HBEL.out.size; have:=HB.out; omega))
theorem parse_gram {l:List Tok} {x:Ex} (h:G exLang (some 1) l x) (hr:(oSyms (some x)).any resv=false):parseR l=(0,some x):=by
 obtain ⟨r,hp⟩:=P.some_res l
 have he:=(P.full exLang hp x).2 h
 subst he
 rw [←parseR_of hp]
 unfold parsed
 dsimp only
 rw [if_pos rfl,any_uniq]
 have e:lSyms [some x]=oSyms (some x):=by simp [lSyms]
 rw [e,hr]
 rfl
theorem sign_eq (c d:UInt8) (n i:Int):signIs ⟨4,⟨#[c]⟩,n,i⟩ [d]=(c == d):=by
 unfold signIs
 have h:(⟨#[c]⟩:ByteArray).toList=[c]:=by rw [ByteArray.toList_eq]
 dsimp only
 rw [h]
 simp
theorem sign_kind (k:Int) (u:ByteArray) (n i:Int) (l:List UInt8) (h:k≠4):signIs ⟨k,u,n,i⟩ l=false:=by
 unfold signIs
 simp [h]
theorem deep_kind (k:Int) (u:ByteArray) (n i:Int) (h:k≠4):deeperP ⟨k,u,n,i⟩=0:=by
 unfold deeperP
 rw [sign_kind _ _ _ _ _ h,sign_kind _ _ _ _ _ h]
 rfl
theorem deep_sign (c:UInt8) (n i:Int) (h:c≠40) (h2:c≠41):deeperP ⟨4,⟨#[c]⟩,n,i⟩=0:=by
 unfold deeperP
 rw [sign_eq,sign_eq]
 simp [h,h2]
theorem deep_open (n i:Int):deeperP ⟨4,⟨#[40]⟩,n,i⟩=1:=by
 unfold deeperP
 rw [sign_eq]
 rfl
theorem deep_close (n i:Int):deeperP ⟨4,⟨#[41]⟩,n,i⟩=-1:=by
 unfold deeperP
 rw [sign_eq,sign_eq]
 rfl
theorem inner_go (n:Nat) (b:Tok) (hb:deeperP b=-1):∀ (m:List Tok) (k:Nat),(∀ t∈m,deeperP t=0)→innerGo n k 1 (m++[b])=(decide (0<k+m.length) && decide (k+m.length+1=n))
 | [],k,_=>by
   show innerGo n k 1 [b]=_
   unfold innerGo
   rw [hb]
   simp
 | t::m,k,h=>by
   rw [List.cons_append]
   unfold innerGo
   rw [h t List.mem_cons_self,if_neg (by decide)]
   rw [show (1:Int)+0=1 from rfl,inner_go n b hb m (k+1) (fun x hx=>h x (List.mem_cons_of_mem _ hx))]
   rw [List.length_cons,show k+1+m.length=k+(m.length+1) by omega]
theorem inner_wrap {a b:Tok} {m:List Tok} (ha:deeperP a=1) (hb:deeperP b=-1) (hm:∀ t∈m,deeperP t=0):innerP (a::(m++[b]))=some m:=by
 have hl:(a::(m++[b])).length=m.length+2:=by simp
 unfold innerP
 rw [hl]
 have h1:innerGo (m.length+2) 0 0 (a::(m++[b]))=true:=by
  unfold innerGo
  rw [ha,if_neg (by decide),show (0:Int)+1=1 from rfl,inner_go _ b hb m (0+1) hm]
  simp
  omega
 rw [if_pos h1]
 simp
theorem inner_none {t:Tok} {l:List Tok} (h:deeperP t=0):innerP (t::l)=none:=by
 unfold innerP
 have h1:innerGo (t::l).length 0 0 (t::l)=false:=by
  unfold innerGo
  rw [h,if_pos (by decide)]
  rfl
 rw [if_neg (by rw [h1]; decide)]
theorem tU_sign (c:UInt8) (i:Int) (h:c=43∨c=45):tU ⟨4,⟨#[c]⟩,0,i⟩=true∧lvlS (tnm ⟨4,⟨#[c]⟩,0,i⟩)=5:=by
 have h1:(tnm ⟨4,⟨#[c]⟩,0,i⟩).toList=[c]:=by
  show (⟨#[c]⟩:ByteArray).toList=[c]
  rw [ByteArray.toList_eq]
 unfold tU lvlS
 rw [h1]
 rcases h with rfl | rfl<;>exact ⟨rfl,rfl⟩
theorem parse_num (n i:Int):parseR [⟨2,⟨#[]⟩,n,i⟩]=(0,some (.num n)) :=
 parse_gram (.one _ _ _ (.atom _ _ (atom_num n i))) rfl
theorem parse_signed (c:UInt8) (n i j:Int) (h:c=43∨c=45):∃ x,parseR [⟨4,⟨#[c]⟩,0,i⟩,⟨2,⟨#[]⟩,n,j⟩]=(0,some x) :=
 ⟨_,parse_gram (.one _ _ _ (.un _ _ _ (tU_sign c i h).1 (.atom _ _ (atom_num n j)))) rfl⟩
theorem parse_rel (c:UInt8) (n i j k:Int) (h:c=43∨c=45):∃ x,parseR [⟨4,⟨#[36]⟩,0,k⟩,⟨4,⟨#[c]⟩,0,i⟩,⟨2,⟨#[]⟩,n,j⟩]=(0,some x):=by
 have hl:=(tU_sign c i h).2
 have h1:exLang.lvl ⟨4,⟨#[c]⟩,0,i⟩=5:=hl
 have hb:=G.bin (S:=exLang) 1 ⟨4,⟨#[c]⟩,0,i⟩ [⟨4,⟨#[36]⟩,0,k⟩] [⟨2,⟨#[]⟩,n,j⟩] .here (.num n) (by rw [h1]; decide) (by rw [h1]; decide) (.one _ _ _ (.atom _ _ (atom_here k))) (.one _ _ _ (.atom _ _ (atom_num n j)))
 exact ⟨_,parse_gram hb rfl⟩
theorem expr_of {kind:Int} {text:ByteArray} {l:List Tok} {x:Ex} (h:parseR l=(0,some x)):exprA kind text l=(⟨kind,text,some x⟩,0):=by
 unfold exprA
 rw [h]
 simp
theorem lx_numText {s:ByteArray} {i:Nat} (n:Int) (h0:0≤n) (h1:n≤65535) (ha:At s i (numText n)) (hs:Stop1 s (i+(numText n).size)):Lx s i [⟨2,⟨#[]⟩,n,i⟩] (i+(numText n).size):=by
 obtain ⟨k0,k1,k2⟩:=numText_ok n h0 h1
 have:=lx_num n.toNat ha k0 k1 k2 hs (numP_text n h0 h1)
 rw [show ((n.toNat:Nat):Int)=n by omega] at this
 exact this
theorem one_size (c:UInt8):(⟨#[c]⟩:ByteArray).size=1:=rfl
theorem lx_signed {s:ByteArray} {i:Nat} (n:Int) (h0:-1000≤n) (h1:n≤1000) (ha:At s i (signedS n)) (hs:Stop1 s (i+(signedS n).size)) :
 ∃ (c:UInt8) (m:Int),(c=43∨c=45)∧Lx s i [⟨4,⟨#[c]⟩,0,i⟩,⟨2,⟨#[]⟩,m,(i+1:Nat)⟩] (i+(signedS n).size):=by
 unfold signedS at ha hs ⊢
 by_cases h:n<0
 · rw [if_pos h] at ha hs ⊢
   rw [ByteArray.size_append,one_size] at hs ⊢
   have h2:=ha.right
   rw [one_size] at h2
   have hl:=lx_sign ha.left (by decide) (by intro h; exact absurd h (by decide))
   have hn:=lx_numText (-n) (by omega) (by omega) h2 (by rw [show i+1+(numText (-n)).size=i+(1+(numText (-n)).size) by omega]; exact hs)
   rw [show i+1+(numText (-n)).size=i+(1+(numText (-n)).size) by omega] at hn
   exact ⟨45,-n,.inr rfl,hl.trans hn⟩
 · rw [if_neg h] at ha hs ⊢
   rw [ByteArray.size_append,one_size] at hs ⊢
   have h2:=ha.right
   rw [one_size] at h2
   have hl:=lx_sign ha.left (by decide) (by intro h; exact absurd h (by decide))
   have hn:=lx_numText n (by omega) (by omega) h2 (by rw [show i+1+(numText n).size=i+(1+(numText n).size) by omega]; exact hs)
   rw [show i+1+(numText n).size=i+(1+(numText n).size) by omega] at hn
   exact ⟨43,n,.inl rfl,hl.trans hn⟩
theorem lx_af {s:ByteArray} {i:Nat} (h:At s i ⟨#[65,70,39]⟩):Lx s i [⟨1,⟨#[65,70,39]⟩,0,i⟩] (i+3):=by
 obtain ⟨h0,b0⟩:=h 0 (by show 0<3; decide)
 obtain ⟨h1,b1⟩:=h 1 (by show 1<3; decide)
 obtain ⟨h2,b2⟩:=h 2 (by show 2<3; decide)
 have b0:bat s i=65:=b0
 have b1:bat s (i+1)=70:=b1
 have b2:bat s (i+2)=39:=b2
 have h0:i<s.size:=h0
 have r2:runEnd s (i+2)=i+2:=runEnd_no _ _ h2 (by rw [bat_get _ _ h2,b2]; rfl)
 have r0:runEnd s i=i+2:=by
  rw [runEnd_go s i h0 (by rw [bat_get _ _ h0,b0]; rfl),runEnd_go s (i+1) h1 (by rw [bat_get _ _ h1,b1]; rfl)]
  exact r2
 have ha:At s i ⟨#[65,70]⟩:=by
  intro k hk
  have hk:k<2:=hk
  have hh:=h k (by show k<3; omega)
  have:k=0∨k=1:=by omega
  rcases this with rfl | rfl<;>exact hh
 have hsub:s.extract i (i+2)=⟨#[65,70]⟩:=sub_at' ha rfl
 have hup:(upper (⟨#[65,70]⟩:ByteArray)).toList=[65,70]:=by rw [ByteArray.toList_eq]; decide +kernel
 have hwe:wordEnd s i=i+3:=by
  unfold wordEnd
  rw [dif_pos h0,if_pos (by rw [bat_get _ _ h0,b0]; rfl),dif_pos (by rw [r0]; exact h2),if_pos,r0]
  refine ⟨?_,?_⟩
  · rw [r0]
    show (upper (s.extract i (i+2))).toList=_
    rw [hsub,hup]
  · have:∀ j (hj:j<s.size),j=i+2→s[j]=39:=fun j hj e=>by subst e; rw [bat_get _ _ hj]; exact b2
    exact this _ _ r0
 refine lx_tok h0 (by rw [b0]; decide) (by rw [b0]; decide) (by rw [b0]; decide) ?_
 unfold nextP
 rw [if_pos (by rw [hwe]; omega),hwe]
 show Except.ok ((⟨1,s.extract i (i+3),0,i⟩:Tok),i+3)=_
 rw [show s.extract i (i+3)=⟨#[65,70,39]⟩ from sub_at' h rfl]
def arKT (o:Op3):Int × ByteArray :=
 if o.1=4 then (2,nm 4 o.2.1.toNat) else if o.1=5 then (3,nm 5 o.2.1.toNat) else if o.1=6∨o.1=10 then (4,⟨#[]⟩) else if o.1=7 then (5,⟨#[]⟩) else (1,nm o.1.toNat o.2.1.toNat)
def kt (a:Ar):Int × ByteArray:=(a.kind,a.text)
def TokO (l:List Tok) (o:Op3):Prop:=l≠[]∧(∀ t∈l,signIs t [44]=false)∧(l.map deeperP).sum=0∧(argOf l).2=0∧kt (argOf l).1=arKT o
def wordB (u:ByteArray):Bool:=decide (0<u.size) && isLet (bat u 0) && (List.range u.size).all fun k=>isW (bat u k)
def afB (u:ByteArray):Bool:=u.data.toList == [65,70,39]
def nmOk (k r:Nat):Bool :=
 (nm k r).toList.isEmpty || ((upper (nm k r)).data.toList == (nm k r).data.toList && (nm k r).data.toList.all (fun c=>c != 32) && (if k=4 then wordB (nm k r) && decide (regP (nm k r)=some (r:Int)) else if k=5 then wordB (nm k r) && decide (regP (nm k r)=some (r:Int)) && ixW (nm k r) else if k=6∨k=7∨k=10 then true else (wordB (nm k r) || afB (nm k r)) && resvA (nm k r)))
set_option maxRecDepth 100000 in
theorem nms_ok:∀ k:Fin 11,∀ r:Fin 9,nmOk k.val r.val=true:=by decide +kernel
theorem wordB_ok {u:ByteArray} (h:wordB u=true):WordOk u:=by
 unfold wordB at h
 simp only [Bool.and_eq_true,decide_eq_true_eq,List.all_eq_true,List.mem_range] at h
 exact ⟨h.1.1,h.1.2,h.2⟩
theorem ba_of {a:ByteArray} {l:List UInt8} (h:a.data.toList=l):a=⟨l.toArray⟩:=by
 subst h
 cases a; simp
def OpG (o:Op3):Prop:=opValid o.1 o.2.1 o.2.2=true∧(o.1=6→0≤o.2.2)
theorem opG_parts {o:Op3} (h:OpG o):∃ k r:Nat,k<11∧1≤k∧r<9∧o.1=k∧o.2.1=r∧(nm k r).toList.isEmpty=false∧klo k≤o.2.2∧o.2.2≤khi k∧opText o.1 o.2.1 o.2.2=formS k (nm k r) o.2.2:=by
 obtain ⟨h1,_⟩:=h
 have hv:=h1
 unfold opValid at h1
 simp only [Bool.and_eq_true,decide_eq_true_eq] at h1
 obtain ⟨⟨⟨⟨⟨⟨a1,a2⟩,a3⟩,a4⟩,a5⟩,a6⟩,a7⟩:=h1
 refine ⟨o.1.toNat,o.2.1.toNat,by omega,by omega,by omega,by omega,by omega,by simpa using a5,a6,a7,?_⟩
 unfold opText
 rw [if_pos hv]
theorem nm_parts {k r:Nat} (hk:k<11) (hr:r<9) (h:(nm k r).toList.isEmpty=false):upper (nm k r)=nm k r∧(∀ c∈(nm k r).data.toList,c≠32) ∧
 (if k=4 then WordOk (nm k r)∧regP (nm k r)=some (r:Int) else if k=5 then WordOk (nm k r)∧regP (nm k r)=some (r:Int)∧ixW (nm k r)=true else if k=6∨k=7∨k=10 then True else (WordOk (nm k r)∨nm k r=⟨#[65,70,39]⟩)∧resvA (nm k r)=true):=by
 have hh:=nms_ok ⟨k,hk⟩ ⟨r,hr⟩
 unfold nmOk at hh
 dsimp only at hh
 rw [h,Bool.false_or,Bool.and_eq_true,Bool.and_eq_true] at hh
 obtain ⟨⟨h1,h2⟩,h3⟩:=hh
 refine ⟨ba_ext (by simpa using h1),?_,?_⟩
 · intro c hc
   rw [List.all_eq_true] at h2
   simpa using h2 c hc
 · split
   · rename_i e
     rw [if_pos e,Bool.and_eq_true] at h3
     exact ⟨wordB_ok h3.1,by simpa using h3.2⟩
   · rename_i e
     rw [if_neg e] at h3
     split
     · rename_i e
       rw [if_pos e,Bool.and_eq_true,Bool.and_eq_true] at h3
       exact ⟨wordB_ok h3.1.1,by simpa using h3.1.2,h3.2⟩
     · rename_i e
       rw [if_neg e] at h3
       split
       · trivial
       · rename_i e
         rw [if_neg e,Bool.and_eq_true,Bool.or_eq_true] at h3
         refine ⟨h3.1.imp wordB_ok (fun h=>?_),h3.2⟩
         unfold afB at h
         exact ba_of (by simpa using h)
theorem word_at1 (u:ByteArray) (i:Int) (l:List Tok):wordAt (⟨1,u,0,i⟩::l) 0=upper u:=rfl
theorem word_num (n i:Int) (l:List Tok):wordAt (⟨2,⟨#[]⟩,n,i⟩::l) 0=⟨#[]⟩:=rfl
theorem resv_nil:resvA ⟨#[]⟩=false:=by decide +kernel
theorem reg_nil:regP ⟨#[]⟩=none:=by decide +kernel
theorem ixW_nil:ixW ⟨#[]⟩=false:=by decide +kernel
theorem argOf_long {l:List Tok} (h:l.length≠1):argOf l=argP1 l:=by
 unfold argOf
 rw [if_neg (fun e=>h e.1)]
theorem tok_name {s:ByteArray} {i:Nat} {u:ByteArray} (hu:WordOk u∨u=⟨#[65,70,39]⟩) (hup:upper u=u) (hr:resvA u=true) (ha:At s i u) (hs:Stop1 s (i+u.size)) :
 ∃ l,Lx s i l (i+u.size)∧l≠[]∧(∀ t∈l,signIs t [44]=false)∧(l.map deeperP).sum=0∧(argOf l).2=0∧kt (argOf l).1=(1,u):=by
 have hl:Lx s i [⟨1,u,0,i⟩] (i+u.size):=by
  rcases hu with hu | rfl
  · exact lx_word ha hu hs
  · exact lx_af ha
 refine ⟨_,hl,by simp,?_,?_,?_⟩
 · intro t ht
   rw [List.mem_singleton] at ht
   subst ht
   exact sign_kind _ _ _ _ _ (by decide)
 · simp [deep_kind]
 · have e:argOf [⟨1,u,0,i⟩]=(⟨1,u,none⟩,0):=by
    unfold argOf
    rw [word_at1,hup,if_pos ⟨rfl,hr⟩]
   rw [e]
   exact ⟨rfl,rfl⟩
theorem tok_brk {s:ByteArray} {i:Nat} {u:ByteArray} {m:List Tok} (ha:At s i (⟨#[40]⟩++u++⟨#[41]⟩)) (hm:∀ j,At s j u→Stop1 s (j+u.size)→j=i+1→Lx s j m (j+u.size)) :
 Lx s i (⟨4,⟨#[40]⟩,0,i⟩::(m++[⟨4,⟨#[41]⟩,0,(i+1+u.size:Nat)⟩])) (i+(⟨#[40]⟩++u++⟨#[41]⟩:ByteArray).size):=by
 have hsz:(⟨#[40]⟩++u++⟨#[41]⟩:ByteArray).size=u.size+2:=by
  rw [ByteArray.size_append,ByteArray.size_append,one_size,one_size]
  omega
 have h1:=ha.left.left
 have h2:At s (i+1) u:=ha.left.right
 have h3:=ha.right
 have e:i+(⟨#[40]⟩++u:ByteArray).size=i+1+u.size:=by
  rw [ByteArray.size_append,one_size]
  omega
 rw [e] at h3
 obtain ⟨hc1,hc2⟩:=h3.one
 have hl:=hm (i+1) h2 (.inr (by rw [hc2]; decide)) rfl
 have hx:=lx_sign h1 (by decide) (by intro h; exact absurd h (by decide))
 have hy:=lx_sign h3 (by decide) (by intro h; exact absurd h (by decide))
 rw [hsz,show i+(u.size+2)=i+1+u.size+1 by omega]
 exact (hx.trans hl).trans hy
theorem brk_facts {a b:Int} {m:List Tok} (hm:∀ t∈m,signIs t [44]=false∧deeperP t=0) :
 (∀ t∈(⟨4,⟨#[40]⟩,0,a⟩:Tok)::(m++[⟨4,⟨#[41]⟩,0,b⟩]),signIs t [44]=false)∧(((⟨4,⟨#[40]⟩,0,a⟩:Tok)::(m++[⟨4,⟨#[41]⟩,0,b⟩])).map deeperP).sum=0∧innerP (⟨4,⟨#[40]⟩,0,a⟩::(m++[⟨4,⟨#[41]⟩,0,b⟩]))=some m:=by
 have hz:(m.map deeperP).sum=0:=by
  clear a b
  induction m with
  | nil=>rfl
  | cons t m ih =>
    rw [List.map_cons,List.sum_cons,(hm t List.mem_cons_self).2,ih (fun x hx=>hm x (List.mem_cons_of_mem _ hx))]
    rfl
 refine ⟨?_,?_,inner_wrap (deep_open _ _) (deep_close _ _) fun t ht=>(hm t ht).2⟩
 · intro t ht
   rcases List.mem_cons.1 ht with rfl | ht
   · rw [sign_eq]; rfl
   · rcases List.mem_append.1 ht with ht | ht
     · exact (hm t ht).1
     · rw [List.mem_singleton] at ht
       subst ht
       rw [sign_eq]; rfl
 · rw [List.map_cons,List.map_append,List.sum_cons,List.sum_append,hz,deep_open]
   simp [deep_close]
theorem word_facts (u:ByteArray) (n i:Int) (k:Int) (h:k≠4):signIs ⟨k,u,n,i⟩ [44]=false∧deeperP ⟨k,u,n,i⟩=0:=⟨sign_kind _ _ _ _ _ h,deep_kind _ _ _ _ h⟩
theorem pm_facts (c:UInt8) (i:Int) (h:c=43∨c=45∨c=36):signIs ⟨4,⟨#[c]⟩,0,i⟩ [44]=false∧deeperP ⟨4,⟨#[c]⟩,0,i⟩=0:=by
 refine ⟨?_,deep_sign c 0 i ?_ ?_⟩
 · rw [sign_eq]; rcases h with rfl | rfl | rfl<;>rfl
 · rcases h with rfl | rfl | rfl<;>decide
 · rcases h with rfl | rfl | rfl<;>decide
theorem tok_ind {s:ByteArray} {i:Nat} {u:ByteArray} {r:Int} (hu:WordOk u) (hup:upper u=u) (hr:regP u=some r) (ha:At s i (⟨#[40]⟩++u++⟨#[41]⟩)) :
 ∃ l,Lx s i l (i+(⟨#[40]⟩++u++⟨#[41]⟩:ByteArray).size)∧l≠[]∧(∀ t∈l,signIs t [44]=false)∧(l.map deeperP).sum=0∧(argOf l).2=0∧kt (argOf l).1=(2,u):=by
 have hl:=tok_brk (m:=[⟨1,u,0,(i+1:Nat)⟩]) ha (fun j hj hs e=>by subst e; exact lx_word hj hu hs)
 have hf:=brk_facts (a:=i) (b:=(i+1+u.size:Nat)) (m:=[⟨1,u,0,(i+1:Nat)⟩]) (fun t ht=>by
  rw [List.mem_singleton] at ht; subst ht; exact word_facts _ _ _ _ (by decide))
 refine ⟨_,hl,by simp,hf.1,hf.2.1,?_⟩
 rw [argOf_long (by simp)]
 have e:argP1 ((⟨4,⟨#[40]⟩,0,(i:Int)⟩:Tok)::([⟨1,u,0,((i+1:Nat):Int)⟩]++[⟨4,⟨#[41]⟩,0,((i+1+u.size:Nat):Int)⟩]))=(⟨2,u,none⟩,0):=by
  unfold argP1
  rw [hf.2.2]
  dsimp only
  rw [word_at1,hup,hr,if_pos ⟨rfl,rfl⟩]
 rw [e]
 exact ⟨rfl,rfl⟩
theorem tok_idx {s:ByteArray} {i:Nat} {u:ByteArray} {n:Int} (hu:WordOk u) (hup:upper u=u) (hx:ixW u=true) (h0:-1000≤n) (h1:n≤1000) (ha:At s i (⟨#[40]⟩++(u++signedS n)++⟨#[41]⟩)) :
 ∃ l,Lx s i l (i+(⟨#[40]⟩++(u++signedS n)++⟨#[41]⟩:ByteArray).size)∧l≠[]∧(∀ t∈l,signIs t [44]=false)∧(l.map deeperP).sum=0∧(argOf l).2=0∧kt (argOf l).1=(3,u):=by
 have h2:At s (i+1) (u++signedS n):=ha.left.right
 have hst:Stop1 s (i+1+(u++signedS n).size):=by
  have h3:=ha.right
  rw [ByteArray.size_append (a:=⟨#[40]⟩),one_size,←Nat.add_assoc] at h3
  exact .inr (by rw [h3.one.2]; decide)
 have hsz:(u++signedS n).size=u.size+(signedS n).size:=ByteArray.size_append
 obtain ⟨c,m,hc,hlx⟩:=lx_signed n h0 h1 h2.right (by rw [show i+1+u.size+(signedS n).size=i+1+(u++signedS n).size by rw [hsz]; omega]; exact hst)
 have hsc:Stop1 s (i+1+u.size):=by
  have h5:=h2.right
  unfold signedS at h5
  refine .inr ?_
  split at h5
  · rw [h5.left.one.2]; decide
  · rw [h5.left.one.2]; decide
 have hw:=lx_word h2.left hu hsc
 have hin:=hw.trans hlx
 have hl:=tok_brk (m:=[⟨1,u,0,(i+1:Nat)⟩]++[⟨4,⟨#[c]⟩,0,(i+1+u.size:Nat)⟩,⟨2,⟨#[]⟩,m,(i+1+u.size+1:Nat)⟩]) ha (fun j hj hs e=>by
  subst e
  rw [hsz,←Nat.add_assoc]
  exact hin)
 have hf:=brk_facts (a:=i) (b:=(i+1+(u++signedS n).size:Nat)) (m:=[⟨1,u,0,(i+1:Nat)⟩]++[⟨4,⟨#[c]⟩,0,(i+1+u.size:Nat)⟩,⟨2,⟨#[]⟩,m,(i+1+u.size+1:Nat)⟩]) (fun t ht=>by
  simp only [List.cons_append,List.nil_append,List.mem_cons,List.not_mem_nil,or_false] at ht
  rcases ht with rfl | rfl | rfl
  · exact word_facts _ _ _ _ (by decide)
  · exact pm_facts _ _ (by rcases hc with h | h; exact .inl h; exact .inr (.inl h))
  · exact word_facts _ _ _ _ (by decide))
 refine ⟨_,hl,by simp,hf.1,hf.2.1,?_⟩
 obtain ⟨x,hpx⟩:=parse_signed c m (i+1+u.size:Nat) (i+1+u.size+1:Nat) hc
 rw [argOf_long (by simp)]
 have e:∀ Q,innerP Q=some ([⟨1,u,0,((i+1:Nat):Int)⟩]++[⟨4,⟨#[c]⟩,0,((i+1+u.size:Nat):Int)⟩,⟨2,⟨#[]⟩,m,((i+1+u.size+1:Nat):Int)⟩])→argP1 Q=(⟨3,u,some x⟩,0):=by
  intro Q hQ
  unfold argP1
  rw [hQ]
  dsimp only [List.cons_append,List.nil_append]
  rw [word_at1,hup,if_neg (by simp),if_pos ⟨hx,by simp,by
   unfold isPM
   simp only [List.getElem?_cons_succ,List.getElem?_cons_zero]
   rw [sign_eq,sign_eq]
   rcases hc with rfl | rfl<;>rfl⟩]
  exact expr_of hpx
 rw [e _ hf.2.2]
 exact ⟨rfl,rfl⟩
theorem tok_imm {s:ByteArray} {i:Nat} {n:Int} (h0:0≤n) (h1:n≤65535) (ha:At s i (numText n)) (hs:Stop1 s (i+(numText n).size)) :
 ∃ l,Lx s i l (i+(numText n).size)∧l≠[]∧(∀ t∈l,signIs t [44]=false)∧(l.map deeperP).sum=0∧(argOf l).2=0∧kt (argOf l).1=(4,⟨#[]⟩):=by
 refine ⟨_,lx_numText n h0 h1 ha hs,by simp,?_,?_,?_⟩
 · intro t ht
   rw [List.mem_singleton] at ht; subst ht
   exact sign_kind _ _ _ _ _ (by decide)
 · simp [deep_kind]
 · have e:argOf [⟨2,⟨#[]⟩,n,(i:Int)⟩]=(⟨4,⟨#[]⟩,some (.num n)⟩,0):=by
    unfold argOf
    rw [word_num,resv_nil,if_neg (by simp)]
    unfold argP1
    rw [inner_none (deep_kind _ _ _ _ (by decide))]
    exact expr_of (parse_num n i)
   rw [e]
   exact ⟨rfl,rfl⟩
theorem tok_mem {s:ByteArray} {i:Nat} {n:Int} (h0:0≤n) (h1:n≤65535) (ha:At s i (⟨#[40]⟩++numText n++⟨#[41]⟩)) :
 ∃ l,Lx s i l (i+(⟨#[40]⟩++numText n++⟨#[41]⟩:ByteArray).size)∧l≠[]∧(∀ t∈l,signIs t [44]=false)∧(l.map deeperP).sum=0∧(argOf l).2=0∧kt (argOf l).1=(5,⟨#[]⟩):=by
 have hl:=tok_brk (m:=[⟨2,⟨#[]⟩,n,(i+1:Nat)⟩]) ha (fun j hj hs e=>by subst e; exact lx_numText n h0 h1 hj hs)
 have hf:=brk_facts (a:=i) (b:=(i+1+(numText n).size:Nat)) (m:=[⟨2,⟨#[]⟩,n,(i+1:Nat)⟩]) (fun t ht=>by
  rw [List.mem_singleton] at ht; subst ht; exact word_facts _ _ _ _ (by decide))
 refine ⟨_,hl,by simp,hf.1,hf.2.1,?_⟩
 rw [argOf_long (by simp)]
 have e:∀ Q,innerP Q=some [⟨2,⟨#[]⟩,n,((i+1:Nat):Int)⟩]→argP1 Q=(⟨5,⟨#[]⟩,some (.num n)⟩,0):=by
  intro Q hQ
  unfold argP1
  rw [hQ]
  dsimp only
  rw [word_num,reg_nil,ixW_nil,if_neg (by simp),if_neg (by simp)]
  exact expr_of (parse_num n _)
 rw [e _ hf.2.2]
 exact ⟨rfl,rfl⟩
theorem tok_rel {s:ByteArray} {i:Nat} {n:Int} (h0:-1000≤n) (h1:n≤1000) (ha:At s i (⟨#[36]⟩++signedS n)) (hs:Stop1 s (i+(⟨#[36]⟩++signedS n:ByteArray).size)) :
 ∃ l,Lx s i l (i+(⟨#[36]⟩++signedS n:ByteArray).size)∧l≠[]∧(∀ t∈l,signIs t [44]=false)∧(l.map deeperP).sum=0∧(argOf l).2=0∧kt (argOf l).1=(4,⟨#[]⟩):=by
 have hsz:(⟨#[36]⟩++signedS n:ByteArray).size=1+(signedS n).size:=by rw [ByteArray.size_append,one_size]
 rw [hsz] at hs ⊢
 have h2:=ha.right
 rw [one_size] at h2
 obtain ⟨c,m,hc,hlx⟩:=lx_signed n h0 h1 h2 (by rw [Nat.add_assoc]; exact hs)
 have hsc:Stop1 s (i+1):=by
  have h5:=h2
  unfold signedS at h5
  refine .inr ?_
  split at h5
  · rw [h5.left.one.2]; decide
  · rw [h5.left.one.2]; decide
 have hd:=lx_sign ha.left (by decide) (fun _=>hsc)
 have hl:=hd.trans hlx
 rw [show i+1+(signedS n).size=i+(1+(signedS n).size) by omega] at hl
 refine ⟨_,hl,by simp,?_,?_,?_⟩
 · intro t ht
   simp only [List.cons_append,List.nil_append,List.mem_cons,List.not_mem_nil,or_false] at ht
   rcases ht with rfl | rfl | rfl
   · exact (pm_facts _ _ (.inr (.inr rfl))).1
   · exact (pm_facts _ _ (by rcases hc with h | h; exact .inl h; exact .inr (.inl h))).1
   · exact sign_kind _ _ _ _ _ (by decide)
 · simp only [List.cons_append,List.nil_append,List.map_cons,List.map_nil,List.sum_cons,List.sum_nil]
   rw [(pm_facts 36 i (.inr (.inr rfl))).2,(pm_facts c (i+1:Nat) (by rcases hc with h | h; exact .inl h; exact .inr (.inl h))).2,deep_kind _ _ _ _ (by decide)]
   rfl
 · obtain ⟨x,hpx⟩:=parse_rel c m (i+1:Nat) (i+1+1:Nat) i hc
   rw [argOf_long (by simp)]
   have e:argP1 ([⟨4,⟨#[36]⟩,0,(i:Int)⟩]++[⟨4,⟨#[c]⟩,0,((i+1:Nat):Int)⟩,⟨2,⟨#[]⟩,m,((i+1+1:Nat):Int)⟩])=(⟨4,⟨#[]⟩,some x⟩,0):=by
    unfold argP1
    rw [List.cons_append,List.nil_append,inner_none (pm_facts 36 i (.inr (.inr rfl))).2]
    exact expr_of hpx
   rw [e]
   exact ⟨rfl,rfl⟩
theorem op_toks {o:Op3} (h:OpG o) {s:ByteArray} {i:Nat} (ha:At s i (opText o.1 o.2.1 o.2.2)) (hs:Stop1 s (i+(opText o.1 o.2.1 o.2.2).size)):∃ l,Lx s i l (i+(opText o.1 o.2.1 o.2.2).size)∧TokO l o:=by
 obtain ⟨k,r,hk,hk1,hr,e1,e2,hne,hlo,hhi,htx⟩:=opG_parts h
 obtain ⟨hup,_,hc⟩:=nm_parts hk hr hne
 have h6:=h.2
 obtain ⟨o1,o2,n⟩:=o
 dsimp only at e1 e2 hlo hhi htx ha hs h6 ⊢
 subst e1 e2
 rw [htx] at ha hs ⊢
 unfold TokO arKT
 dsimp only
 rw [show ((k:Int)).toNat=k from rfl,show ((r:Int)).toNat=r from rfl]
 unfold formS at ha hs ⊢
 by_cases k4:k=4
 · subst k4
   rw [if_pos rfl] at ha hs hc
   rw [if_pos rfl,if_pos (show ((4:Nat):Int)=4 from rfl)]
   exact tok_ind hc.1 hup hc.2 ha
 rw [if_neg k4] at ha hs hc
 rw [if_neg k4,if_neg (show ¬ ((k:Int)=4) by omega)]
 by_cases k5:k=5
 · subst k5
   rw [if_pos rfl] at ha hs hc
   rw [if_pos rfl,if_pos (show ((5:Nat):Int)=5 from rfl)]
   have e:(⟨#[40]⟩++nm 5 r++signedS n++⟨#[41]⟩:ByteArray)=⟨#[40]⟩++(nm 5 r++signedS n)++⟨#[41]⟩:=by rw [ByteArray.append_assoc (a:=⟨#[40]⟩)]
   rw [e] at ha hs ⊢
   have q0:(-128:Int)≤n:=hlo
   have q1:n≤127:=hhi
   exact tok_idx hc.1 hup hc.2.2 (by omega) (by omega) ha
 rw [if_neg k5] at ha hs hc
 rw [if_neg k5,if_neg (show ¬ ((k:Int)=5) by omega)]
 by_cases k6:k=6
 · subst k6
   rw [if_pos rfl] at ha hs
   rw [if_pos rfl]
   have h0:=h6 rfl
   have q1:n≤65535:=hhi
   rw [if_neg (by omega)] at ha hs
   rw [if_neg (by omega),if_pos (show ((6:Nat):Int)=6∨((6:Nat):Int)=10 from .inl rfl)]
   exact tok_imm h0 q1 ha hs
 rw [if_neg k6] at ha hs ⊢
 by_cases k7:k=7
 · subst k7
   rw [if_pos rfl] at ha hs
   rw [if_pos rfl,if_neg (show ¬ (((7:Nat):Int)=6∨((7:Nat):Int)=10) by decide),if_pos (show ((7:Nat):Int)=7 from rfl)]
   have q0:(0:Int)≤n:=hlo
   have q1:n≤65535:=hhi
   exact tok_mem q0 q1 ha
 rw [if_neg k7] at ha hs ⊢
 by_cases k10:k=10
 · subst k10
   rw [if_pos rfl] at ha hs
   rw [if_pos rfl,if_pos (show ((10:Nat):Int)=6∨((10:Nat):Int)=10 from .inr rfl)]
   have q0:(-128:Int)≤n:=hlo
   have q1:n≤127:=hhi
   exact tok_rel (by omega) (by omega) ha hs
 rw [if_neg k10] at ha hs ⊢
 rw [if_neg (show ¬ ((k:Int)=6∨(k:Int)=10) by omega),if_neg (show ¬ ((k:Int)=7) by omega)]
 rw [if_neg (by omega)] at hc
 exact tok_name hc.1 hup hc.2 ha hs
theorem split_app:∀ (l:List Tok) (d:Int) (cur rest:List Tok),(∀ t∈l,signIs t [44]=false)→splitGo d cur (l++rest)=splitGo (d+(l.map deeperP).sum) (cur++l) rest
 | [],d,cur,rest,_=>by simp
 | t::l,d,cur,rest,h=>by
   rw [List.cons_append]
   conv=>lhs; unfold splitGo
   rw [if_neg (fun e=>by rw [h t List.mem_cons_self] at e; exact absurd e.1 (by decide)),split_app l _ _ rest (fun x hx=>h x (List.mem_cons_of_mem _ hx))]
   rw [List.map_cons,List.sum_cons,List.append_assoc,List.singleton_append,Int.add_assoc]
theorem listS_two (o p:Op3) (l:List Op3):listS (o::p::l)=opText o.1 o.2.1 o.2.2++(⟨#[44]⟩++listS (p::l)):=by
 apply ba_ext
 simp [listS,texts,Lib.join_cons,Lib.joinTail]
theorem listS_single (o:Op3):listS [o]=opText o.1 o.2.1 o.2.2:=by
 apply ba_ext
 simp [listS,texts,Lib.join_one]
theorem args_cons {p:List Tok} {ps:List (List Tok)} (h:(argOf p).2=0) (h2:(argsGo ps).2=0):(argsGo (p::ps)).2=0∧(argsGo (p::ps)).1=(argOf p).1::(argsGo ps).1:=by
 have e:argsGo (p::ps)=if (argOf p).2=0 then (if (argsGo ps).2=0 then ((argOf p).1::(argsGo ps).1,0) else ([],(argsGo ps).2)) else ([],(argOf p).2):=rfl
 rw [e,if_pos h,if_pos h2]
 exact ⟨rfl,rfl⟩
theorem list_toks:∀ (l:List Op3) (o:Op3),(∀ x∈o::l,OpG x)→∀ (s:ByteArray) (i:Nat),At s i (listS (o::l))→i+(listS (o::l)).size=s.size →
 ∃ tk,Lx s i tk s.size∧tk≠[]∧(argsGo (splitGo 0 [] tk)).2=0∧(argsGo (splitGo 0 [] tk)).1.map kt=(o::l).map arKT
 | [],o,h,s,i,ha,hi=>by
   rw [listS_single] at ha hi
   obtain ⟨tk,hlx,h1,h2,h3,h4,h5⟩:=op_toks (h o List.mem_cons_self) ha (.inl (by omega))
   rw [hi] at hlx
   refine ⟨tk,hlx,h1,?_⟩
   have e:splitGo 0 [] tk=[tk]:=by
    have:=split_app tk 0 [] [] h2
    rw [List.append_nil] at this
    rw [this]
    simp [splitGo]
   rw [e]
   obtain ⟨a,b⟩:=args_cons (p:=tk) (ps:=[]) h4 rfl
   refine ⟨a,?_⟩
   rw [b]
   simp [argsGo,h5]
 | p::l,o,h,s,i,ha,hi=>by
   rw [listS_two] at ha hi
   have hr:=ha.right
   have hc:=hr.left
   obtain ⟨tk,hlx,h1,h2,h3,h4,h5⟩:=op_toks (h o List.mem_cons_self) ha.left (.inr (by rw [hc.one.2]; decide))
   have hcm:=lx_sign hc (by decide) (by intro h; exact absurd h (by decide))
   have hr2:=hr.right
   rw [one_size] at hr2
   rw [ByteArray.size_append,ByteArray.size_append,one_size] at hi
   obtain ⟨tk2,kx,k1,k2,k3⟩:=list_toks l p (fun x hx=>h x (List.mem_cons_of_mem _ hx)) s _ hr2 (by omega)
   refine ⟨_,(hlx.trans hcm).trans kx,by simp,?_⟩
   have e:∀ c:Tok,signIs c [44]=true→deeperP c=0→splitGo 0 [] (tk++[c]++tk2)=tk::splitGo 0 [] tk2:=by
    intro c hc1 hc2
    rw [List.append_assoc,split_app tk 0 [] _ h2,h3,List.singleton_append]
    conv=>lhs; unfold splitGo
    rw [if_pos ⟨hc1,by rw [hc2]; decide⟩,hc2]
    rfl
   rw [e _ (by rw [sign_eq]; rfl) (deep_sign 44 _ _ (by decide) (by decide))]
   obtain ⟨a,b⟩:=args_cons (p:=tk) h4 k2
   refine ⟨a,?_⟩
   rw [b,List.map_cons,k3,h5]
   rfl
def noSp (u:ByteArray):Prop:=∀ c∈u.data.toList,c≠32
theorem noSp_append {u v:ByteArray} (h:noSp u) (h2:noSp v):noSp (u++v):=by
 intro c hc
 rw [ByteArray.data_append,Array.toList_append] at hc
 rcases List.mem_append.1 hc with hc | hc
 · exact h c hc
 · exact h2 c hc
theorem noSp_one {c:UInt8} (h:c≠32):noSp ⟨#[c]⟩:=by
 intro d hd
 simp at hd
 subst hd
 exact h
theorem isW_32 {c:UInt8} (h:isW c=true):c≠32:=by rintro rfl; revert h; decide
theorem noSp_num (n:Int) (h0:0≤n) (h1:n≤65535):noSp (numText n):=by
 obtain ⟨_,_,h⟩:=numText_ok n h0 h1
 intro c hc
 obtain ⟨k,hk,rfl⟩:=List.getElem_of_mem hc
 have hk2:k<(numText n).size:=by rw [Array.length_toList] at hk; exact hk
 have:=h k hk2
 rw [bat_data,List.getElem?_eq_getElem hk] at this
 exact isW_32 this
theorem noSp_signed (n:Int) (h0:-1000≤n) (h1:n≤1000):noSp (signedS n):=by
 unfold signedS
 split
 · exact noSp_append (noSp_one (by decide)) (noSp_num _ (by omega) (by omega))
 · exact noSp_append (noSp_one (by decide)) (noSp_num _ (by omega) (by omega))
theorem op_noSp {o:Op3} (h:OpG o):noSp (opText o.1 o.2.1 o.2.2)∧0<(opText o.1 o.2.1 o.2.2).size:=by
 obtain ⟨k,r,hk,hk1,hr,e1,e2,hne,hlo,hhi,htx⟩:=opG_parts h
 obtain ⟨_,hsp,hc⟩:=nm_parts hk hr hne
 have h6:=h.2
 have hnz:0<(nm k r).size:=by
  rcases Nat.eq_zero_or_pos (nm k r).size with h0 | h0
  · have:(nm k r).toList=[]:=by
     rw [ByteArray.toList_eq]
     have:(nm k r).data=#[]:=Array.eq_empty_of_size_eq_zero (by exact h0)
     rw [this]
    rw [this] at hne
    cases hne
  · exact h0
 rw [htx]
 have hsp:noSp (nm k r):=hsp
 unfold formS
 split
 · refine ⟨noSp_append (noSp_append (noSp_one (by decide)) hsp) (noSp_one (by decide)),?_⟩
   rw [ByteArray.size_append,one_size]; omega
 · split
   · rename_i k5
     subst k5
     have q0:(-128:Int)≤o.2.2:=hlo
     have q1:o.2.2≤127:=hhi
     refine ⟨noSp_append (noSp_append (noSp_append (noSp_one (by decide)) hsp) (noSp_signed _ (by omega) (by omega))) (noSp_one (by decide)),?_⟩
     rw [ByteArray.size_append,one_size]; omega
   · split
     · rename_i k6
       subst k6
       have h0:=h6 e1
       have q1:o.2.2≤65535:=hhi
       rw [if_neg (by omega)]
       exact ⟨noSp_num _ h0 q1,(numText_ok _ h0 q1).1⟩
     · split
       · rename_i k7
         subst k7
         have q0:(0:Int)≤o.2.2:=hlo
         have q1:o.2.2≤65535:=hhi
         refine ⟨noSp_append (noSp_append (noSp_one (by decide)) (noSp_num _ q0 q1)) (noSp_one (by decide)),?_⟩
         rw [ByteArray.size_append,one_size]; omega
       · split
         · rename_i k10
           subst k10
           have q0:(-128:Int)≤o.2.2:=hlo
           have q1:o.2.2≤127:=hhi
           refine ⟨noSp_append (noSp_one (by decide)) (noSp_signed _ (by omega) (by omega)),?_⟩
           rw [ByteArray.size_append,one_size]; omega
         · exact ⟨hsp,hnz⟩
theorem list_noSp:∀ (l:List Op3) (o:Op3),(∀ x∈o::l,OpG x)→noSp (listS (o::l))∧0<(listS (o::l)).size
 | [],o,h=>by rw [listS_single]; exact op_noSp (h o List.mem_cons_self)
 | p::l,o,h=>by
   rw [listS_two]
   have h1:=op_noSp (h o List.mem_cons_self)
   have h2:=list_noSp l p (fun x hx=>h x (List.mem_cons_of_mem _ hx))
   refine ⟨noSp_append h1.1 (noSp_append (noSp_one (by decide)) h2.1),?_⟩
   rw [ByteArray.size_append]
   have:=h1.2
   omega
theorem end_tok (s:ByteArray) (acc:List Tok):toksGo s s.size acc=.ok (acc++[⟨0,⟨#[]⟩,0,skipEnd s s.size⟩]):=by
 refine toksGo_end s s.size acc ?_
 rcases h:moreAt s (skipEnd s s.size) with _ | _
 · rfl
 · have h1:=moreAt_lt h
   have h2:=skipEnd_ge s s.size
   omega
theorem trim_hit (l:List UInt8):Lib.trimSuffix (l++[32]) [32]=l:=by
 unfold Lib.trimSuffix Lib.hasSuffix
 rw [if_pos (by rw [List.isSuffixOf_iff_suffix]; exact ⟨l,rfl⟩)]
 simp
theorem trim_miss (l m:List UInt8) (h:m≠[]) (h2:∀ c∈m,c≠32):Lib.trimSuffix (l++m) [32]=l++m:=by
 unfold Lib.trimSuffix Lib.hasSuffix
 rw [if_neg]
 intro e
 rw [List.isSuffixOf_iff_suffix] at e
 obtain ⟨t,ht⟩:=e
 have h3:(l++m).getLast? = some 32:=by rw [←ht]; simp
 rw [List.getLast?_append] at h3
 cases hg:m.getLast? with
 | none=>exact h (List.getLast?_eq_none_iff.1 hg)
 | some c =>
   rw [hg] at h3
   simp at h3
   subst h3
   exact h2 _ (List.mem_of_getLast? hg) rfl
theorem show_toks (m:List UInt8) (C:List Op3) (hm:WordOk ⟨m.toArray⟩) (hC:∀ o∈C,OpG o) (hl:m.length≤100) (hcl:C.length≤5) (S:ByteArray)
 (hS:S=⟨(Lib.trimSuffix ((⟨m.toArray⟩:ByteArray)++⟨#[32]⟩++listS C).data.toList [32]).toArray⟩) :
 0<S.size∧∃ (l:List Tok) (t:Tok),toksP S=.ok (⟨1,⟨m.toArray⟩,0,0⟩::(l++[t]))∧(argsP l).2=0∧(argsP l).1.map kt=C.map arKT:=by
 have h0:=hm.1
 have hms:(⟨m.toArray⟩:ByteArray).size=m.length:=by show m.toArray.size=_; simp
 have hln:=listS_len C
 cases C with
 | nil =>
   have e:S=⟨m.toArray⟩:=by
    rw [hS]
    apply ba_ext
    have:((⟨m.toArray⟩:ByteArray)++⟨#[32]⟩++listS []).data.toList=m++[32]:=by simp [listS,texts,Lib.join_nil]
    rw [this,trim_hit]
   subst e
   clear hS
   refine ⟨h0,[],⟨0,⟨#[]⟩,0,skipEnd ⟨m.toArray⟩ (⟨m.toArray⟩:ByteArray).size⟩,?_,?_,?_⟩
   · have hw:=lx_word (At.self ⟨m.toArray⟩) hm (.inl (by rw [Nat.zero_add]; exact Nat.lt_irrefl _))
     unfold toksP
     rw [if_neg (by rw [hms]; omega),hw [],Nat.zero_add,end_tok]
     rfl
   · simp [argsP,splitP,argsGo]
   · simp [argsP,splitP,argsGo]
 | cons o l =>
   have hsp:=list_noSp l o hC
   have e:S=⟨m.toArray⟩++(⟨#[32]⟩++listS (o::l)):=by
    rw [hS]
    apply ba_ext
    have:((⟨m.toArray⟩:ByteArray)++⟨#[32]⟩++listS (o::l)).data.toList=(m++[32])++(listS (o::l)).data.toList:=by
     rw [ByteArray.data_append,ByteArray.data_append,Array.toList_append,Array.toList_append]
    rw [this,trim_miss]
    · rw [ByteArray.data_append,ByteArray.data_append,Array.toList_append,Array.toList_append]
      simp
    · intro e
      have h2:=hsp.2
      rw [Lib.size_eq,e] at h2
      exact absurd h2 (by decide)
    · exact hsp.1
   have hsz:S.size=m.length+(1+(listS (o::l)).size):=by rw [e,ByteArray.size_append,ByteArray.size_append,one_size,hms]
   have ha:At S 0 (⟨m.toArray⟩++(⟨#[32]⟩++listS (o::l))):=by rw [←e]; exact At.self S
   have hr:=ha.right
   rw [hms,Nat.zero_add] at hr
   obtain ⟨hb1,hb2⟩:=hr.left.one
   have hw:=lx_word ha.left hm (by rw [hms,Nat.zero_add]; exact .inr (by rw [hb2]; decide))
   rw [hms,Nat.zero_add] at hw
   have hbl:=lx_blank hb1 hb2
   have hr2:=hr.right
   rw [one_size] at hr2
   obtain ⟨tk,kx,k1,k2,k3⟩:=list_toks l o hC S _ hr2 (by omega)
   refine ⟨by omega,tk,⟨0,⟨#[]⟩,0,skipEnd S S.size⟩,?_,?_,?_⟩
   · unfold toksP
     rw [if_neg (by simp only [List.length_cons] at hln hcl; omega),((hw.trans hbl).trans kx) [],end_tok]
     rfl
   · unfold argsP splitP
     rw [if_neg k1]
     exact k2
   · unfold argsP splitP
     rw [if_neg k1]
     exact k3
end Go.Proofs.YtkldoojonnkfgaaGreatDoor
