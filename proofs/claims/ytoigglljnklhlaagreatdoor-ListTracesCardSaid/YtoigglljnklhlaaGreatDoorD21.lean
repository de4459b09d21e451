/- Joined. -/
import Derived.Test.YtoigglljnklhlaaGreatDoorD20
set_option maxHeartbeats 8000000
set_option maxRecDepth 100000
namespace Go.Proofs.YtoigglljnklhlaaGreatDoor
section
open Go.RowKit Go.Sort
theorem If (k:Nat) (s:ByteArray) (n:Int) (hs:s.size≤10):(zJ k s n).size≤100:=by
 have h1:=iX n;have h2:=fC n;have h3:=iX (n+2);unfold zJ;split
 · rw[Qm,Qm];show 1+_+1≤100;omega
 · split
   · rw[Qm,Qm,Qm];show 1+_+_+1≤100;omega
   · split
     · split<;>omega
     · split
       · rw[Qm,Qm];show 1+_+1≤100;omega
       · split
         · rw[Qm];show 1+_≤100;omega
         · omega
theorem sE (k r n:Int):(eT k r n).size≤100:=by
 unfold eT;split
 · exact If _ _ _ (Nf _ _)
 · exact Qi _
def eZ (l:List Op3):List ByteArray:=l.map fun x=>eT x.1 x.2.1 x.2.2
def mP (l:List Op3):ByteArray:=⟨(Lib.join ((eZ l).map (·.data.toList)) [44]).toArray⟩
theorem Sw (l:List Op3):Lib.lens ((eZ l).map (·.data.toList))≤l.length*100:=by
 induction l with
 | nil=>simp[eZ,Lib.lens]
 | cons x l ih =>
   have:=sE x.1 x.2.1 x.2.2
   simp only[eZ,Lib.lens,Xt,List.sum_cons,Qp,Zk] at ih ⊢;have e:(eT x.1 x.2.1 x.2.2).data.toList.length=(eT x.1 x.2.1 x.2.2).size:=by simp
   rw[e];omega
theorem yY (l:List Op3):(Lib.join ((eZ l).map (·.data.toList)) [44]).length≤l.length*101:=by
 cases l with
 | nil=>simp[eZ,Lib.join_nil]
 | cons x l =>
   have h1:=sE x.1 x.2.1 x.2.2;have h2:=Sw l;have e:(eT x.1 x.2.1 x.2.2).data.toList.length=(eT x.1 x.2.1 x.2.2).size:=by simp
   have:(Lib.join ((eZ (x::l)).map (·.data.toList)) [44]).length=(eT x.1 x.2.1 x.2.2).data.toList.length+(Lib.joinTail [44] ((eZ l).map (·.data.toList))).length:=by
    rw[←Qc,←Lib.join_cons];rfl
   rw[this,Lib.joinTail_length,e];simp only[eZ,Qs,Qp,Qz] at h2 ⊢;omega
theorem uW (l:List Op3):(mP l).size≤l.length*101:=by
 have:=yY l
 show (Lib.join ((eZ l).map (·.data.toList)) [44]).toArray.size≤_
 simpa using this
theorem aJs (xs:List (List UInt8)) (y sep:List UInt8) (h:xs≠[]):Lib.join (xs++[y]) sep=Lib.join xs sep++sep++y:=by
 cases xs with
 | nil=>exact absurd rfl h
 | cons x r =>
   rw[Xy,Lib.join_cons,Lib.join_cons];simp[Lib.joinTail]
theorem aFA {a b:ByteArray} (h:a.data.toList=b.data.toList):a=b:=by
 cases a;cases b;simp at h;cases h;rfl
theorem aJr (l:List Op3) (x:Op3) (h:l[0]? = some x):mP (l.take 1)=eT x.1 x.2.1 x.2.2:=by
 cases l with
 | nil=>cases h
 | cons y l =>
   simp at h;subst h
   apply aFA
   simp[mP,eZ,Lib.join_one]
theorem aIP (l:List Op3) (j:Nat) (x:Op3) (h:l[j]? = some x) (h0:0<j):mP (l.take (j+1))=mP (l.take j)++(⟨#[44]⟩:ByteArray)++eT x.1 x.2.1 x.2.2:=by
 apply aFA
 have hne:(eZ (l.take j)).map (·.data.toList)≠[]:=by
  intro e;have h1:=congrArg List.length e
  have:=(Qd.1 h).1
  simp only[eZ,Qs,Qt,Qz] at h1;omega
 have:(eZ (l.take (j+1))).map (·.data.toList)=(eZ (l.take j)).map (·.data.toList)++[(eT x.1 x.2.1 x.2.2).data.toList]:=by
  rw[Qo,h];simp[eZ]
 simp[mP,this,aJs _ _ _ hne]
end
section
open Go.RowKit Go.Sort
open Go.Proofs.Tryz
theorem Jz (k r n:Int) (w:World) (hT:Tabs w) :
 Calls prog 166 #[.agg #[k,r,n]] w fun e w'=>e=.returned (.string (eT k r n))∧Below w w w':=by
 rcases hv:bP k r n with _|_
 · have hr:eT k r n=⟨#[]⟩:=by unfold eT;rw[hv];rfl
   rw[hr];go_enter func166,ntmps166
   go_wp2_with fail
   refine (Vo k r n _ hv).mono ?_;rintro e w1 ⟨rfl,hb⟩;obtain⟨p1,rfl⟩:=aO hb;clear hb;go_wp2_with fail
   go_ret;exact⟨rfl,bl⟩
 · have hr:eT k r n=zJ k.toNat (nm k.toNat r.toNat) n:=by unfold eT;rw[hv];rfl
   obtain⟨a,b,rfl,rfl,h1,h2,h3,h4,h5,h6⟩:=mO hv;rw[Xl,Xl] at hr;rw[hr];clear hr hv;have HT:=Hh hT;clear hT;have hent:=Hg a h1 h2;go_enter func166,ntmps166
   go_wp2_with fail
   refine (Na a b n _ h1 h2 h3 h4 h5 h6).mono ?_;rintro e w1 ⟨rfl,hb⟩;obtain⟨p1,rfl⟩:=aO hb;clear hb;go_wp2_with fail
   refine (Ow a (nm a b) n _ (HT.out.below (bl)) h1 h2 (by have:=aPK a;omega) (by have:=aPL a;omega) (Nf a b)).mono ?_;rintro e w1 ⟨rfl,hb⟩;obtain⟨p2,rfl⟩:=aO hb;clear hb;go_wp2_with fail
   go_ret;exact⟨rfl,bl⟩
theorem At (l:List Op3) (j:Nat) (x:Op3) (h:l[j]? = some x):eZ (l.take (j+1))=eZ (l.take j)++[eT x.1 x.2.1 x.2.2]:=by
 rw[Qo,h];simp[eZ]
theorem Nx (v1:Value) (l:List Op3) (w:World) (h1:Row w v1 l.length (opc l)) (hl:l.length≤1000) (hT:Tabs w) :
 Calls prog 117 #[v1] w fun e w'=>e=.returned (.string (mP l))∧Below w w w':=by
 obtain⟨i0,hi,hz0,hz1,hz2⟩:=info_parts Tryz.infoString;obtain⟨a1,c1,rfl,hc1,h1⟩:=h1.op;obtain⟨B,hB⟩:∃ B,w.heap.size=B:=⟨_,rfl⟩;have HT:=Hh hT;clear hT;have H1:=Hh h1;clear h1;have HB:=Hh hB;clear hB;go_enter func117,ntmps117
 go_wp2_with fail
 go_loopw [3,8] (fun v i wr=>∃ j:Nat,j≤l.length∧i=.int .i64 j∧wr.ownsRow B 9 1 v j (fH (eZ (l.take j)))∧Below B w wr) (fun _ i _=>l.length - (intOf i).toNat)
 case atStart=>exact⟨0,Qi _,rfl,Xa _ _ _ _,Below.refl _ _⟩
 case round =>
  obtain⟨j,hj,rfl,hown,hbel⟩:=hrel;have HOWN:=Hh hown;clear hown;have HBEL:=Hh hbel;clear hbel;by_cases hlt:j<l.length
  · obtain⟨⟨x0,x1,x2⟩,hx⟩:∃ x,l[j]? = some x:=⟨_,Qb hlt⟩;obtain⟨g,o,rfl,hg,hc⟩:=H1.out (by intro e;rw[e] at hlt;exact absurd hlt (Qw _))
    obtain⟨cx0,cx1,cx2⟩:=hc j _ hx;clear hc;rw[←HBEL.out.cell (p:=⟨_,_,none⟩) (by rw[←HB.out];exact hg)] at cx0 cx1 cx2;have Hx:=Hh hx;clear hx;have hi0:(0:Int)≤(j:Int):=om
    have hi1:(j:Int)<(l.length:Int):=om
    go_wp2_with fail
    refine (Jz x0 x1 x2 _ ((HT.out.below (by rw[HB.out];exact HBEL.out)).below (bl))).mono ?_;rintro e w1 ⟨rfl,hb⟩;obtain⟨p1,rfl⟩:=aO hb;clear hb;go_wp2_with (at_builtin;refine wpList_append_own _ rfl _ _ 177 rfl B 9 i0 (.string ⟨#[]⟩) 1 16 underlying177 hi hz0 hz1 hz2 rfl dc _ _ _ rfl (iZ HOWN.out (bl)) _ 1 1 [.string (eT x0 x1 x2)] rfl rfl ?c1 ?c2 ?c3 ?c4 ?c5 ?_)
    case c1 =>
     intro q u hq;rw[bD];match q,hq with
     | 0,hq=>simp at hq;subst hq;simp[go_sem]
    case c2=>intro u hu;simp at hu;subst hu;rfl
    case c3=>unfold maxLen;omega
    case c4=>omega
    case c5=>have:=HBEL.out.size;have:=HB.out;simp[go_sem];omega
    intro v' w1 hown' hgrow _;have hsz:B≤wr:=by have:=HBEL.out.size;have:=HB.out;omega
    have hb':Below B w w1:=(HBEL.out.trans (Below.mono (show Below wr wr _ from bl) hsz)).grown hgrow (by simp[go_sem];omega) (by
     intro q hq
     have:=HOWN.out.2
     rcases this with⟨h,_⟩|⟨g,cap,cur,h,hg,_⟩
     · rw[h] at hq;cases hq
     · rw[h] at hq;cases hq;exact hg)
    have HOWN3:=Hh hown';clear hown';have HB':=Hh hb';clear hb' hgrow;go_wp2_with fail
    go_roundw
    case rel=>exact⟨j+1,om,by go_num,by rw[At l j _ Hx.out,qA];exact HOWN3.out,HB'.out⟩
    case measure=>simp[intOf];omega
  · obtain rfl:j=l.length:=om
    have hrow:=Row.of_owns HOWN.out;rw[Qy] at hrow;obtain⟨a2,c2,rfl,hc2,hr⟩:=hrow;have HR:=Hh hr;clear hr;have hjoin:Calls prog 109 #[.slice a2 l.length c2,.string ⟨#[44]⟩] wr fun e w'=>e=.returned (.string (mP l))∧Below wr wr w':=by
     by_cases hnil:l=[]
     · subst hnil;exact (Tryz.strings_Join_none a2 c2 ⟨#[44]⟩ wr).mono fun e w' ⟨he,hw⟩=>⟨he,hw ▸ Below.refl _ _⟩
     · have hlen:(eZ l).length=l.length:=by simp[eZ]
       obtain⟨g,o,rfl,hg,hcs⟩:=HR.out (by intro e;have h2:=jN (eZ l);rw[e,hlen] at h2;exact hnil (Xc h2.symm))
       have hj:=Tryz.strings_Join g o c2 (eZ l) ⟨#[44]⟩ wr (fun j x hx=>by
        have hjl:j<(eZ l).length:=(Qd.1 hx).1;rw[hcs j (by rw[jN];exact hjl)];simp[fH,hx]) hg om om (by have:=yY l;show (Lib.join ((eZ l).map (·.data.toList)) [44]).length≤_;omega)
       rw[hlen] at hj;exact hj
    go_wp2_with fail
    refine hjoin.mono ?_;rintro e w1 ⟨rfl,hb⟩;obtain⟨p1,rfl⟩:=aO hb;clear hb;go_wp2_with fail
    go_ret;refine⟨rfl,?_⟩;rw[HB.out];exact HBEL.out.trans (Below.mono (show Below wr wr _ from bl) (by have:=HBEL.out.size;have:=HB.out;omega))
theorem aIc (s:ByteArray):(⟨#[]⟩:ByteArray)++s=s:=by
 apply aFA;simp
def xR (i:aY):ByteArray:=if (gO i).2=0 then ⟨(Lib.trimSuffix ((⟨i.1.toArray⟩:ByteArray)++⟨#[32]⟩++mP (bV i).2).data.toList [32]).toArray⟩ else ⟨#[]⟩
theorem aNE {p:Prop} (h:p:=by
 have:=rZ (w.alloc (.cells #[m,.slice a l.length c] 53)) [.string ⟨m.toArray⟩,.slice a l.length c] 1 53
 rwa [Qa] at this):p:=h
theorem Ll (m:List UInt8) (v:Value) (l:List Op3) (w:World) (hT:TabsA w) (hr:Row w v l.length (opc l)) (hl:l.length≤900) (hm:m.length≤1000) (hsz:(mP (bV (m,l)).2).size≤1000000) :
 Calls prog 75 #[eU m v] w fun e w'=>e=.returned (.string (xR (m,l)))∧Below w w w':=by
 have hlg:=fun g X (hb:Below w w X) h1=>Gz m v l g X (hT.below hb) h1 (hr.below hb) om;have hof:=fun X (hb:Below w w X)=>Nb m v l X (hT.below hb) (hr.below hb) hl;have hcl:(bV (m,l)).2.length≤l.length+1:=kM (m,l);unfold xR;obtain⟨C,hC⟩:∃ C,(bV (m,l)).2=C:=⟨_,rfl⟩;rw[hC] at hof hcl hsz ⊢;dsimp only;have hls:=fun X vc (hb:Below w w X) h=>Nx vc C X h om (hT.below hb).t;obtain⟨S,hS⟩:∃ S,mP C=S:=⟨_,rfl⟩;rw[hS] at hls hsz ⊢;have hsz2:((⟨m.toArray⟩:ByteArray)++⟨#[32]⟩++S).size≤9223372036854775807:=by
  rw[Qm,Qm];have h1:(⟨m.toArray⟩:ByteArray).size=m.length:=by show m.toArray.size=_;rw[Qx]
  have h2:(⟨#[32]⟩:ByteArray).size=1:=rfl;omega
 have HSZ:=Hh hsz2;clear hsz2;have HLG:=Hh hlg;have HOF:=Hh hof;have HLS:=Hh hls;clear hlg hof hls hC hS;obtain⟨a,c,rfl,_,_⟩:=hr;by_cases hf:(gO (m,l)).2=0
 · rw[if_pos hf];have hlg2:=HLG.out;rw[Qh hf] at hlg2;have HL2:=Hh hlg2;clear hlg2 HLG hf;go_enter func75,ntmps75
   go_wp2_with fail
   have hbW:Below w w ((w.alloc (.cells #[m,.slice a l.length c] 53)).alloc (.cells #[m,.slice a l.length c] 53)):=bl;have hrow:Row ((w.alloc (.cells #[m,.slice a l.length c] 53)).alloc (.cells #[m,.slice a l.length c] 53)) (.slice (w+1:Nat) 1 1) 1 [.string ⟨m.toArray⟩,.slice a l.length c]:=by
    exact aNE
   refine (HL2.out _ _ hbW hrow).mono ?_;rintro e w2 ⟨rfl,hb2⟩;have h0:=aB (aE (o':=.cells #[m,.slice a l.length c] 53) (aF w (.cells #[m,.slice a l.length c] 53))) hb2 (by simp;omega);obtain⟨k0,k1,_,_⟩:=aL h0;have hl2:=aA h0;have HB:=Hh (hbW.trans (hb2.mono hbW.size));clear hbW hrow hb2 h0;go_wp2_with fail
   refine (HOF.out _ HB.out).mono ?_;rintro e w3 ⟨v3,rfl,hr3,hb3⟩;obtain⟨a3,c3,hv3,_,_⟩:=hr3.op;subst hv3;have hrow3:=hr3.row;have HB3:=Hh (HB.out.trans (hb3.mono HB.out.size));clear hb3 hr3 k0 k1 hl2;go_wp2_with fail
   obtain⟨W,hW⟩:∃ W,(w3.alloc (.cells #[m,.slice a3 C.length c3] 53))=W:=⟨_,rfl⟩;have hal:Below w3 w3 W:=by rw[←hW];exact br.alloc lr _
   have hbk:W.heap[w3.heap.size]? = some (.cells #[m,.slice a3 C.length c3] 53 (0,0)):=by rw[←hW];exact aF _ _
   rw[hW];clear hW;obtain⟨t0,t1,_,_⟩:=aL hbk;have hlW:=aA hbk;have HBW:=Hh (HB3.out.trans (hal.mono HB3.out.size));have hls2:=fun p=>HLS.out (gw W p) (.slice a3 C.length c3) (HBW.out.trans ((cF W p).mono HBW.out.size)) ((hrow3.below hal).below (cF W p));have HLS2:=Hh hls2;have htr:=fun p=>Tryz.strings_TrimSuffix ((⟨m.toArray⟩:ByteArray)++⟨#[32]⟩++S) ⟨#[32]⟩ (gw W p) HSZ.out;have HTR:=Hh htr;clear hls2 htr hal hbk hrow3;refine bO kr kr ?_;repeat (go_big_quiet_step (first|exact eG (HLS2.out _)|exact mR (by refine (HTR.out _).mono ?_;rintro e w' ⟨h1,h2⟩;exact⟨h1,h2.symm⟩)))
   refine wpQuiet_nil ?_;rintro W3 ⟨p3,hW3⟩;have hb3:Below W W W3:=by rw[hW3];exact bl
   clear hW3 p3;have HB4:=Hh (HBW.out.trans (hb3.mono HBW.out.size));clear hb3;go_wp2_with fail
   go_ret;exact⟨rfl,HB4.out⟩
 · rw[if_neg hf];have hlg2:=HLG.out;rw[Qg hf] at hlg2;have HL2:=Hh hlg2;clear hlg2 HLG hf;go_enter func75,ntmps75
   go_wp2_with fail
   have hbW:Below w w ((w.alloc (.cells #[m,.slice a l.length c] 53)).alloc (.cells #[m,.slice a l.length c] 53)):=bl;have hrow:Row ((w.alloc (.cells #[m,.slice a l.length c] 53)).alloc (.cells #[m,.slice a l.length c] 53)) (.slice (w+1:Nat) 1 1) 1 [.string ⟨m.toArray⟩,.slice a l.length c]:=by
    exact aNE
   refine (HL2.out _ _ hbW hrow).mono ?_;rintro e w2 ⟨rfl,hb2⟩;have HB:=Hh (hbW.trans (hb2.mono hbW.size));clear hbW hrow hb2;go_wp2_with fail
   go_ret;exact⟨rfl,HB.out⟩
end
section
open Go.RowKit Go.Sort
def aIg (i:aY):ByteArray:=if (aHx i).2=0 then (if (bV i).2=[] then ⟨i.1.toArray⟩ else (⟨i.1.toArray⟩:ByteArray)++⟨#[32]⟩++mP (bV i).2) else ⟨#[]⟩
def aHq (u:ByteArray):Prop:=∀ c∈u.data.toList,c≠32
theorem aGX {u v:ByteArray} (h:aHq u) (h2:aHq v):aHq (u++v):=by
 intro c hc;rw[Xq,Array.toList_append] at hc;rcases Xs.1 hc with hc|hc
 · exact h c hc
 · exact h2 c hc
theorem aGY {c:UInt8} (h:c≠32):aHq ⟨#[c]⟩:=by
 intro d hd;simp at hd
 subst hd;exact h
theorem aIs:∀ u:Fin 16,up (jL u.val)≠32:=by decide +kernel
theorem aHw:∀ (f u:Nat),∀ c∈(bL f u).map up,c≠32
 | 0,u,c,h=>by simp[bL] at h
 | f+1,u,c,h=>by
   by_cases hu:u<16
   · rw[tV f u hu] at h;simp at h;subst h
     exact aIs ⟨u,hu⟩
   · rw[zG f u om,Ym,Xs] at h;rcases h with h|h
     · exact aHw f _ c h
     · simp at h;subst h
       exact aIs ⟨u%16,om⟩
theorem aHR (u:Nat):aHq (cH ⟨(bL 4 u).toArray⟩++(⟨#[72]⟩:ByteArray)):=by
 refine aGX (fun c hc=>?_) (aGY dc);unfold cH at hc;exact aHw 4 u c (by simpa using hc)
theorem aJI:∀ n:Fin 10,UInt8.ofNat (48+n.val)≠32:=by decide +kernel
theorem aHG (n:Int):aHq (aX n):=by
 unfold aX;split
 · intro c hc;simp at hc
 · split
   · exact aGY (aJI ⟨n.toNat,om⟩)
   · split
     · exact aGX (aGY dc) (aHR _)
     · exact aHR _
theorem aHl (n:Int):aHq (eI n):=by
 unfold eI;split<;>exact aGX (aGY dc) (aHG _)
theorem aJE:∀ k:Fin 11,∀ r:Fin 9,(nm k.val r.val).data.toList.all (fun c=>c != 32)=true:=by decide +kernel
theorem aHA (o:Op3):aHq (eT o.1 o.2.1 o.2.2):=by
 unfold eT;split
 · rename_i h;unfold bP at h;simp only[Qe,Qf] at h;obtain⟨⟨⟨⟨⟨⟨a1,a2⟩,a3⟩,a4⟩,_⟩,_⟩,_⟩:=h;have hn:aHq (nm o.1.toNat o.2.1.toNat):=fun c hc=>by
    have:=Xk.1 (aJE ⟨o.1.toNat,om⟩ ⟨o.2.1.toNat,om⟩) c hc
    simpa using this
   unfold zJ;split
   · exact aGX (aGX (aGY dc) hn) (aGY dc)
   · split
     · exact aGX (aGX (aGX (aGY dc) hn) (aHl _)) (aGY dc)
     · split
       · split
         · exact aHl _
         · exact aHG _
       · split
         · exact aGX (aGX (aGY dc) (aHG _)) (aGY dc)
         · split
           · exact aGX (aGY dc) (aHl _)
           · exact hn
 · intro c hc;simp at hc
theorem aHB (o p:Op3) (l:List Op3):mP (o::p::l)=eT o.1 o.2.1 o.2.2++(⟨#[44]⟩++mP (p::l)):=by
 apply aFA
 simp[mP,eZ,Lib.join_cons,Lib.joinTail]
theorem aHJ (o:Op3):mP [o]=eT o.1 o.2.1 o.2.2:=by
 apply aFA
 simp[mP,eZ,Lib.join_one]
theorem aHK:∀ (l:List Op3),aHq (mP l)
 | []=>fun c hc=>by simp[mP,eZ,Lib.join_nil] at hc
 | [o]=>by rw[aHJ];exact aHA o
 | o::p::l=>by
   rw[aHB];exact aGX (aHA o) (aGX (aGY dc) (aHK (p::l)))
theorem aJY (n:Int) (h0:0≤n) (h1:n≤65535):0<(aX n).size:=by
 unfold aX;rw[if_neg om];split
 · exact Nat.zero_lt_one
 · split
   · rw[Qm,Qm];show 0<1+(_+1);omega
   · rw[Qm];show 0<_+1;omega
theorem aIC (n:Int):0<(eI n).size:=by
 unfold eI;split<;>(rw[Qm];show 0<1+_;omega)
theorem aIL {o:Op3} (h:bP o.1 o.2.1 o.2.2=true):0<(eT o.1 o.2.1 o.2.2).size:=by
 unfold eT;rw[if_pos h];unfold bP at h;simp only[Qe,Qf] at h;obtain⟨⟨⟨_,a5⟩,a6⟩,a7⟩:=h;have hnz:0<(nm o.1.toNat o.2.1.toNat).size:=by
  rcases Nat.eq_zero_or_pos (nm o.1.toNat o.2.1.toNat).size with h0|h0
  · have:(nm o.1.toNat o.2.1.toNat).toList=[]:=by
     rw[ByteArray.toList_eq]
     have:(nm o.1.toNat o.2.1.toNat).data=#[]:=Array.eq_empty_of_size_eq_zero (by exact h0)
     rw[this]
    rw[this] at a5;cases a5
  · exact h0
 unfold zJ;split
 · rw[Qm,Qm];show 0<1+_+1;omega
 · split
   · rw[Qm,Qm,Qm];show 0<1+_+_+1;omega
   · split
     · rename_i h6;split
       · exact aIC _
       · rw[h6] at a6 a7
         have:(o.2.2:Int)≤65535:=a7
         exact aJY _ om this
     · split
       · rw[Qm,Qm];show 0<1+_+1;omega
       · split
         · rw[Qm];show 0<1+_;omega
         · exact hnz
theorem aIK (w:Nat) (x:Op3) (h:bP x.1 x.2.1 x.2.2=true):bP (sC w x).1 (sC w x).2.1 (sC w x).2.2=true:=by
 unfold sC;split
 · rename_i hc;obtain⟨h6,hn,hw⟩:=hc;unfold bP at h ⊢;simp only[Qe,Qf] at h ⊢;obtain⟨⟨h',_⟩,_⟩:=h;refine⟨⟨h',?_⟩,?_⟩
   · rw[h6];show (-32768:Int)≤_
     split<;>omega
   · rw[h6];show _≤(65535:Int)
     split<;>omega
 · exact h
theorem aIx {i:aY} (h:iR i=0):∀ o∈(bV i).2,bP o.1 o.2.1 o.2.2=true:=by
 intro o ho;unfold bV at ho;obtain⟨x,hx,rfl⟩:=Yo.1 ho;refine aIK _ x ?_;rcases aOY (To hx) with rfl|hx
 · decide +kernel
 · unfold iR at h;split at h
   · cases h
   · split at h
     · cases h
     · split at h
       · cases h
       · rename_i hn;rw[Xx] at hn;cases hb:bP x.1 x.2.1 x.2.2 with
         | true=>rfl
         | false=>exact absurd ⟨x,hx,by rw[hb];rfl⟩ hn
theorem aJg (l:List UInt8):Lib.trimSuffix (l++[32]) [32]=l:=by
 unfold Lib.trimSuffix Lib.hasSuffix;rw[if_pos (by rw[List.isSuffixOf_iff_suffix];exact⟨l,rfl⟩)];simp
theorem aIB (l m:List UInt8) (h:m≠[]) (h2:∀ c∈m,c≠32):Lib.trimSuffix (l++m) [32]=l++m:=by
 unfold Lib.trimSuffix Lib.hasSuffix;rw[if_neg];intro e;rw[List.isSuffixOf_iff_suffix] at e;obtain⟨t,ht⟩:=e;have h3:(l++m).getLast? = some 32:=by rw[←ht];simp
 rw[List.getLast?_append] at h3;cases hg:m.getLast? with
 | none=>exact h (List.getLast?_eq_none_iff.1 hg)
 | some c =>
   rw[hg] at h3;simp at h3
   subst h3;exact h2 _ (List.mem_of_getLast? hg) rfl
theorem aJz (i:aY):aIg i=xR i:=by
 unfold aIg xR;rw[aJw];by_cases hf:(aHx i).2=0
 · rw[if_pos hf,if_pos hf];have hc:iR i=0:=by
    unfold aHx at hf;split at hf
    · assumption
    · exact hf
   have hv:=aIx hc;have e:∀ C:List Op3,((⟨i.1.toArray⟩:ByteArray)++⟨#[32]⟩++mP C).data.toList=(i.1++[32])++(mP C).data.toList:=fun C=>by
    rw[Xq,Xq,Array.toList_append,Array.toList_append]
   cases hC:(bV i).2 with
   | nil =>
     rw[if_pos rfl,e]
     have:(mP []).data.toList=[]:=by simp[mP,eZ,Lib.join_nil]
     rw[this,Zd,aJg]
   | cons o l =>
     rw[if_neg sm,e,aIB _ _ _ (aHK _)]
     · apply aFA
       rw[e]
     · intro h0;rw[hC] at hv;have hp:=aIL (hv o Qq);have hz:0<(mP (o::l)).size:=by
        cases l with
        | nil=>rw[aHJ];exact hp
        | cons p l=>rw[aHB,Qm];omega
       rw[Lib.size_eq,h0] at hz;exact absurd hz dc
 · rw[if_neg hf,if_neg hf]
def aKG (i:aY) (k:Int):Option Op3:=if (aHx i).2=0 then (bV i).2.find? (fun o=>decide (o.1=k)) else none
def wJR:List UInt8:=[74,82]
def aLj:List UInt8:=[68,74,78,90]
def wJP:List UInt8:=[74,80]
def aMg:List UInt8:=[67,65,76,76]
def aNo:List UInt8:=[82,83,84]
def aOh:List UInt8:=[82,69,84]
def aMR:List UInt8:=[82,69,84,73]
def aMQ:List UInt8:=[82,69,84,78]
def aMS:List UInt8:=[72,65,76,84]
def aKC (i:aY):Int :=
 if (aHx i).2≠0 then 0 else if i.1=wJR then 1 else if i.1=aLj then 1 else if i.1=wJP then (if (aKG i 6).isSome then 1 else 4)
 else if i.1=aMg then 2 else if i.1=aNo then 2 else if i.1=aOh then 3 else if i.1=aMR then 3 else if i.1=aMQ then 3 else if i.1=aMS then 4 else 0
def aLw (i:aY):Bool:=decide ((aHx i).2=0) && ((aKG i 8).isSome || decide (i.1=aLj))
def aLb (a:Int) (i:aY):Int :=
 if a<0∨65535<a∨(aKC i≠1∧aKC i≠2) then -1 else ((aKG i 10).map fun o=>(a+2+o.2.2+65536)%65536).getD ((aKG i 6).getD (0,0,0)).2.2
def aLC (x:It):Bool:=decide (x.kind=1) && (decide (aKC x.ins=1) || decide (aKC x.ins=3) || decide (aKC x.ins=4)) && !aLw x.ins
def aLl (a:Int) (x:It):List Int:=if a+x.raw.length≤65535∧x.kind≠4∧aLC x=false then [a+x.raw.length] else []
def aKU (a:Int) (x:It):Int:=if x.kind=1 then aLb a x.ins else -1
def aKP (a:Int) (x:It):List Int :=
 if a<0∨65535<a then [] else if 0≤aKU a x∧(aLl a x=[]∨(aLl a x).head? ≠ some (aKU a x)) then aLl a x++[aKU a x] else aLl a x
theorem aOe {i:aY} {k:Int} {o:Op3} (h:aKG i k=some o):o.1=k∧bP o.1 o.2.1 o.2.2=true:=by
 unfold aKG at h;split at h
 · rename_i hf;have hc:iR i=0:=by
    unfold aHx at hf;split at hf
    · assumption
    · exact hf
   exact⟨by simpa using List.find?_some h,aIx hc o (Za h)⟩
 · cases h
theorem aND {p:Prop} (h:p:=by
 obtain⟨h1,h2⟩:=aOe h;unfold bP at h2;simp only[Qe,Qf] at h2;obtain⟨⟨_,a6⟩,a7⟩:=h2;rw[h1] at a6 a7;exact⟨a6,a7⟩):p:=h
theorem aMy {i:aY} {o:Op3} (h:aKG i 10=some o):-128≤o.2.2∧o.2.2≤127:=by
 exact aND
theorem aOg {i:aY} {o:Op3} (h:aKG i 6=some o):-32768≤o.2.2∧o.2.2≤65535:=by
 exact aND
theorem aMi (a:Int) (i:aY):-32768≤aLb a i∧aLb a i≤65535:=by
 unfold aLb;split
 · omega
 · cases h10:aKG i 10 with
   | some o=>simp only[Yx,Yy];omega
   | none =>
     cases h:aKG i 6 with
     | none=>simp
     | some o=>exact aOg h
theorem aNY (i:aY):0≤aKC i∧aKC i≤4:=by
 unfold aKC
 repeat' split
 all_goals omega
end
section
open Go.RowKit Go.Sort
open Go.Proofs.Tryz
def aLL (P:Op3→Bool) (L:List Op3):Int:=match L.findIdx? P with|some k=>(k:Int)|none=>-1
theorem aML (P:Op3→Bool) (fn:Nat) (fb:Array Value) (v1:Value) (L:List Op3) (w:World) (h1:Row w v1 L.length (opc L)) (hl:L.length≤1000000) (hent:∀ args w,(callFunc fn args).run prog w=.ok (.enter fn args) w)
 (hok:∀ (y:Op3) W,Below w w W→Calls prog fn (#[.agg #[y.1,y.2.1,y.2.2]]++fb) W fun e w'=>e=.returned (.bool (P y))∧Below W W w') :
 Calls prog 222 #[v1,.func (.func fn) #[] fb] w fun e w'=>e=.returned (.int .i64 (aLL P L))∧Below w w w':=by
 obtain⟨a1,c1,rfl,hc1,h1⟩:=h1.op;have H1:=Hh h1;clear h1;have HOK:=Hh hok;clear hok;obtain⟨R,hR⟩:∃ R,aLL P L=R:=⟨_,rfl⟩;rw[hR];unfold aLL at hR;have HR:=Hh hR;clear hR;go_enter func222,ntmps222
 go_wp2_with fail
 go_loopw [5,8] (fun _ i wr=>∃ j:Nat,j≤L.length∧i=.int .i64 j∧Hid (Below w w wr)∧Hid ((L.take j).findIdx? P=none)) (fun _ i _=>L.length - (intOf i).toNat)
 case atStart=>exact⟨0,Qi _,rfl,Hh br,Hh sm⟩
 case round =>
  obtain⟨j,hj,rfl,HBEL,Hno⟩:=hrel;by_cases hlt:j<L.length
  · obtain⟨y,hy⟩:∃ y,L[j]? = some y:=⟨_,Qb hlt⟩;obtain⟨g,o,rfl,hg,hc⟩:=H1.out (by rintro rfl;exact absurd hlt (Qw _))
    obtain⟨k0,k1,k2⟩:=hc j y hy;have m0:=(HBEL.out.cell (p:=⟨g,o+j*3,none⟩) hg).trans k0;have m1:=(HBEL.out.cell (p:=⟨g,o+j*3+1,none⟩) hg).trans k1;have m2:=(HBEL.out.cell (p:=⟨g,o+j*3+2,none⟩) hg).trans k2;have hi0:(0:Int)≤(j:Int):=om
    have hi1:(j:Int)<(L.length:Int):=om
    have hgw:g<wr:=Qj hg HBEL.out.size;have hcall:=HOK.out y wr HBEL.out;obtain⟨r,hr⟩:∃ r,P y=r:=⟨_,rfl⟩;rw[hr] at hcall;have HCALL:=Hh hcall;have hfin:(L.take (j+1)).findIdx? P=if r then some j else none:=by
     rw[Qo,hy,List.findIdx?_append,Hno.out];simp[List.findIdx?_cons,hr]
     cases r<;>simp
     omega
    have HFIN:=Hh hfin;obtain⟨y0,y1,y2⟩:=y;dsimp only at m0 m1 m2 HCALL;clear hc k0 k1 k2 hcall hr hy hfin;go_wp2_with fail
    refine HCALL.out.mono ?_;rintro e w1 ⟨rfl,hb⟩;have HB:=Hh (HBEL.out.trans (hb.mono HBEL.out.size));clear hb m0 m1 m2 hgw;cases r with
    | true =>
      obtain rfl:(j:Int)=R:=by
       rw[←HR.out];have h1:=HFIN.out;have h2:L.findIdx? P=some j:=by
        rw[←Zm (j+1) L,List.findIdx?_append,h1];rfl
       rw[h2]
      clear HR;go_wp2_with fail
      go_ret;exact⟨rfl,HB.out⟩
    | false =>
      go_wp2_with fail
      go_roundw
      case rel=>exact⟨j+1,om,by go_num,HB,Hh HFIN.out⟩
      case measure=>simp[intOf];omega
  · obtain rfl:j=L.length:=om
    obtain rfl:(-1:Int)=R:=by
     have:=Hno.out
     rw[Qy] at this;rw[←HR.out,this]
    clear HR;go_wp2_with fail
    go_ret;exact⟨rfl,HBEL.out⟩
def aKE (i:aY):aY:=if (aHx i).2=0 then bV i else ([],[])
def ofF (l:List Op3) (k:Int):Option Op3:=l.find? (fun o=>decide (o.1=k))
theorem aKX (i:aY) (k:Int):ofF (aKE i).2 k=aKG i k:=by
 unfold ofF aKE aKG;split<;>rfl
theorem aOo (W:World) (x y:Value) (T:TypeId):Row (W.alloc (.cells #[x,y] T)) (.slice W 1 1) 1 [x,y]:=by
 refine⟨_,1,rfl,Qk _,fun _=>⟨W,0,rfl,by rw[Qa];omega,fun j hj=>?_⟩⟩
 rw[Xb,aC (aF W _)];match j,hj with
 | 0,_=>rfl
 | 1,_=>rfl
theorem aLm (m:List UInt8) (v:Value) (l:List Op3) (w:World) (hT:TabsA w) (hr:Row w v l.length (opc l)) (hl:l.length≤900) :
 Calls prog 189 #[eU m v] w fun e w'=>∃ v',e=.returned (eU (aKE (m,l)).1 v')∧Row w' v' (aKE (m,l)).2.length (opc (aKE (m,l)).2)∧Below w w w':=by
 have HLG:=Hh (fun g X (hb:Below w w X) h1=>Gz m v l g X (hT.below hb) h1 (hr.below hb) om);have HOF:=Hh (fun X (hb:Below w w X)=>Nb m v l X (hT.below hb) (hr.below hb) hl);obtain⟨R,hR⟩:∃ R,aKE (m,l)=R:=⟨_,rfl⟩;rw[hR];unfold aKE at hR;obtain⟨c,hc⟩:∃ c,(aHx (m,l)).2=c:=⟨_,rfl⟩;rw[aJw,hc] at HLG;rw[hc] at hR;obtain⟨C,hC⟩:∃ C,bV (m,l)=C:=⟨_,rfl⟩;have hC1:C.1=m:=by rw[←hC];rfl
 rw[hC] at hR HOF;have HR:=Hh hR;have HC1:=Hh hC1;obtain⟨a,ca,rfl,_,_⟩:=hr;unfold eU at *;clear hT hl hR hc hC hC1;go_enter func189,ntmps189
 go_wp2_with fail
 obtain⟨W0,hW0⟩:∃ W,(w.alloc (.cells #[m,.slice a l.length ca] 53)).alloc (.cells #[(),zz] 53)=W:=⟨_,rfl⟩;have hb0:Below w w W0:=by rw[←hW0];exact bl
 have hx0:W0.heap[w.heap.size]? = some (.cells #[m,.slice a l.length ca] 53 (0,0)):=by rw[←hW0];exact aE (aF _ _)
 have hx2:W0.heap[w.heap.size+1]? = some (.cells #[(),zz] 53 (0,0)):=by
  rw[←hW0]
  have:=aF (w.alloc (.cells #[m,.slice a l.length ca] 53)) (.cells #[(),zz] 53)
  rwa [Qa] at this
 have hsz:W0.heap.size=w.heap.size+1+1:=by rw[←hW0];simp
 have hal:Below W0 W0 (W0.alloc (.cells #[m,.slice a l.length ca] 53)):=br.alloc lr _;have hcall:=HLG.out W0 _ (hb0.trans (hal.mono hb0.size)) (aOo W0 (.string ⟨m.toArray⟩) (.slice a l.length ca) 53);rw[hW0];rw[hsz] at hcall;have HB1:=Hh (hb0.trans (hal.mono hb0.size));have HX1:=Hh (aB hx0 hal (aA hx0));have HX2:=Hh (aB hx2 hal (aA hx2));have HCALL:=Hh hcall;clear hW0 hb0 hx0 hx2 hal hcall hsz;refine HCALL.out.mono ?_;rintro e w1 ⟨rfl,hb1⟩;have HB2:=Hh (HB1.out.trans (hb1.mono HB1.out.size));have HY1:=Hh (aB HX1.out hb1 (aA HX1.out));have HY2:=Hh (aB HX2.out hb1 (aA HX2.out));clear hb1 HX1 HX2 HB1 HCALL;by_cases hz:c=0
 · rw[Qh hz];obtain rfl:C=R:=by rw[←HR.out,if_pos hz]
   obtain⟨p0,p1,_⟩:=aL HY1.out;have hl1:=aA HY1.out;clear hz HR;go_wp2_with fail
   refine (HOF.out _ HB2.out).mono ?_;rintro e w2 ⟨v',rfl,hrow,hb2⟩;obtain⟨a',c',rfl,_,_⟩:=id hrow;have HB3:=Hh (HB2.out.trans (hb2.mono HB2.out.size));have HZ2:=Hh (aB HY2.out hb2 (aA HY2.out));have HRW:=Hh hrow;have HLT:=Hh (aA HY2.out);obtain⟨t0,t1,s0,s1⟩:=aL HZ2.out;have hl2:=aA HZ2.out;clear hb2 hrow p0 p1 hl1;go_wp2_with fail
   generalize hF:World.setCell (World.setCell w2 _ _) _ _=F;have hk:Kb (w.heap.size+1) w2 F:=by rw[←hF];exact ((Kb.refl _ _).setCell _ _).setCell _ _
   have hfx:F.heap[w.heap.size+1]? = some (.cells #[m,.slice a' C.2.length c'] 53 (0,0)):=by rw[←hF];exact aG (aG HZ2.out)
   have hbf:=bS HB3.out HB3.out.size hk (Xn _);have hrf:=(HRW.out.kb hk HLT.out).row;clear hF hk t0 t1 s0 s1;obtain⟨r0,r1,_,_⟩:=aL hfx;have hlf:=aA hfx;exact bodyPost_ret (v:=.agg #[m,.slice a' C.2.length c']) (by simp[results,results189,go_sem,r0,r1]) rfl ⟨_,by rw[HC1.out],hrf,hbf⟩
 · rw[Qg hz];obtain rfl:([],[])=R:=by rw[←HR.out,if_neg hz]
   obtain⟨t0,t1,s0,s1⟩:=aL HY2.out;have hl2:=aA HY2.out;clear hz HR;go_wp2_with fail
   generalize hF:World.setCell (World.setCell w1 _ _) _ _=F;have hk:Kb (w.heap.size+1) w1 F:=by rw[←hF];exact ((Kb.refl _ _).setCell _ _).setCell _ _
   have hfx:F.heap[w.heap.size+1]? = some (.cells #[(),zz] 53 (0,0)):=by rw[←hF];exact aG (aG HY2.out)
   have hbf:=bS HB2.out HB2.out.size hk (Xn _);clear hF hk t0 t1 s0 s1;obtain⟨r0,r1,_,_⟩:=aL hfx;have hlf:=aA hfx;exact bodyPost_ret (v:=.agg #[(),zz]) (by simp[results,results189,go_sem,r0,r1]) rfl ⟨.slice none 0 0,rfl,⟨none,0,rfl,Qk _,fun h=>absurd rfl h⟩,hbf⟩
theorem aOr (L:List Op3) (k:Int):(aLL (fun o=>decide (o.1=k)) L=-1∧ofF L k=none)∨∃ (j:Nat) (o:Op3),aLL (fun o=>decide (o.1=k)) L=j∧L[j]? = some o∧ofF L k=some o:=by
 unfold aLL ofF;cases h:L.findIdx? (fun o=>decide (o.1=k)) with
 | none =>
   refine .inl ⟨rfl,?_⟩;rw[List.find?_eq_none];intro x hx;rw[List.findIdx?_eq_none_iff] at h;simpa using h x hx
 | some j =>
   rw[List.findIdx?_eq_some_iff_getElem] at h;obtain⟨hj,h1,h2⟩:=h;refine .inr ⟨j,L[j],rfl,Qb hj,?_⟩;rw[List.find?_eq_some_iff_getElem];exact⟨h1,j,hj,rfl,fun i hi=>by have:=h2 i hi;simpa using this⟩
theorem aOs (y:Op3) (k:Int) (b:Nat) (w:World) (hb:b<w) (hc:w.cell? b=some (.int .i64 k)) :
 Calls prog 223 #[.agg #[y.1,y.2.1,y.2.2],.pointer b] w fun e w'=>e=.returned (.bool (decide (y.1=k)))∧Below w w w':=by
 obtain⟨y0,y1,y2⟩:=y;dsimp only;by_cases h:y0=k
 · subst h;rw[Qh rfl];go_enter func223,ntmps223
   go_wp2_with fail
   go_ret;exact⟨by first|rfl|simp,br.alloc lr _⟩
 · rw[Qg h];have hb:(y0 == k)=false:=by simpa using h
   go_enter func223,ntmps223
   go_wp2_with fail
   go_ret;exact⟨by first|rfl|simp[hb],br.alloc lr _⟩
theorem aLB (m:List UInt8) (v:Value) (l:List Op3) (k:Int) (w:World) (hr:Row w v l.length (opc l)) (hl:l.length≤1000) :
 Calls prog 190 #[eU m v,k] w fun e w'=>e=.returned (.tuple #[.agg #[.int .i64 ((ofF l k).getD (0,0,0)).1,.int .i64 ((ofF l k).getD (0,0,0)).2.1,.int .i64 ((ofF l k).getD (0,0,0)).2.2],.bool (ofF l k).isSome])∧Below w w w':=by
 have hio:=aOr l k;obtain⟨a,c,rfl,hcap,hh⟩:=hr.op;obtain⟨W0,hW0⟩:∃ W,((w.alloc (.cells #[m,.slice a l.length c] 53)).alloc (.cells #[k] 3)).alloc (.cells #[(0:Int),(0:Int),(0:Int)] 144)=W:=⟨_,rfl⟩;have hb0:Below w w W0:=by rw[←hW0];exact bl
 have hx1:W0.heap[w.heap.size]? = some (.cells #[m,.slice a l.length c] 53 (0,0)):=by rw[←hW0];exact aE (aE (aF _ _))
 have hx2:W0.heap[w.heap.size+1]? = some (.cells #[k] 3 (0,0)):=by
  rw[←hW0]
  have:=aF (w.alloc (.cells #[m,.slice a l.length c] 53)) (.cells #[k] 3)
  rw[Qa] at this;exact aE this
 have hx3:W0.heap[w.heap.size+1+1]? = some (.cells #[(0:Int),(0:Int),(0:Int)] 144 (0,0)):=by
  rw[←hW0]
  have:=aF ((w.alloc (.cells #[m,.slice a l.length c] 53)).alloc (.cells #[k] 3)) (.cells #[(0:Int),(0:Int),(0:Int)] 144)
  rwa [Qa,Qa] at this
 have hic:=aML (fun o=>decide (o.1=k)) 223 #[.pointer (w+1:Nat)] (.slice a l.length c) l W0 (hr.below hb0) om (enters_of func223 kr rfl)
  (fun y W hb=>aOs y k (w.heap.size+1) W (Qj (aA hx2) hb.size) (aC (aB hx2 hb (aA hx2)) 0))
 have HIC:=Hh hic;have HB0:=Hh hb0;have HX1:=Hh hx1;have HX3:=Hh hx3;have HW0:=Hh hW0;have HH:=Hh hh;obtain⟨R,hR⟩:∃ R,ofF l k=R:=⟨_,rfl⟩;rw[hR] at hio ⊢;obtain⟨i,hi⟩:∃ i,aLL (fun o=>decide (o.1=k)) l=i:=⟨_,rfl⟩;rw[hi] at hio HIC;have HIO:=Hh hio;unfold eU;clear hic hb0 hx1 hx2 hx3 hW0 hh hr hR hi hio;go_enter func190,ntmps190
 go_wp2_with fail
 rw[HW0.out];refine HIC.out.mono ?_;rintro e w1 ⟨rfl,hb1⟩;have HB1:=Hh (HB0.out.trans (hb1.mono HB0.out.size));have HY1:=Hh (aB HX1.out hb1 (aA HX1.out));have HY3:=Hh (aB HX3.out hb1 (aA HX3.out));have HC1:=Hh (fun (p:Addr) (hp:p.block<w.heap.size)=>(HB1.out.cell (p:=p) hp));clear hb1 HIC;obtain⟨t0,t1,t2,s0,s1,s2⟩:=bE HY3.out;obtain⟨p0,p1,_⟩:=aL HY1.out;have hl1:=aA HY1.out;have hl3:=aA HY3.out;rcases HIO.out with⟨rfl,rfl⟩|⟨j,⟨o0,o1,o2⟩,rfl,hj,rfl⟩
 · go_wp2_with fail
   generalize hF:World.setCell (World.setCell (World.setCell w1 _ _) _ _) _ _=F;have hk:Kb (w.heap.size+1+1) w1 F:=by rw[←hF];exact (((Kb.refl _ _).setCell _ _).setCell _ _).setCell _ _
   have hfx:F.heap[w.heap.size+1+1]? = some (.cells #[(0:Int),(0:Int),(0:Int)] 144 (0,0)):=by rw[←hF];exact aG (aG (aG HY3.out))
   have hbf:=bS HB1.out HB1.out.size hk (Nat.le_succ_of_le (Xn _));clear hF hk t0 t1 t2 s0 s1 s2;obtain⟨r0,r1,r2,_⟩:=bE hfx;have hlf:=aA hfx;exact bodyPost_ret (v:=.tuple #[.agg #[(0:Int),(0:Int),(0:Int)],.bool false]) (by simp[results,results190,go_sem,r0,r1,r2]) rfl ⟨rfl,hbf⟩
 · have hjl:=(Qd.1 hj).1;obtain⟨g,o,rfl,hg,hcs⟩:=HH.out (by rintro rfl;exact absurd hjl (Qw _))
   obtain⟨k0,k1,k2⟩:=hcs j _ hj;have m0:=(HC1.out ⟨g,o+j*3,none⟩ hg).trans k0;have m1:=(HC1.out ⟨g,o+j*3+1,none⟩ hg).trans k1;have m2:=(HC1.out ⟨g,o+j*3+2,none⟩ hg).trans k2;have hgw:g<w1:=Qj hg HB1.out.size;have hi0:(0:Int)≤(j:Int):=om
   have hi1:(j:Int)<(l.length:Int):=om
   dsimp only at m0 m1 m2;clear hj k0 k1 k2 hcs;go_wp2_with fail
   generalize hF:World.setCell (World.setCell (World.setCell w1 _ _) _ _) _ _=F;have hk:Kb (w.heap.size+1+1) w1 F:=by rw[←hF];exact (((Kb.refl _ _).setCell _ _).setCell _ _).setCell _ _
   have hfx:F.heap[w.heap.size+1+1]? = some (.cells #[o0,o1,o2] 144 (0,0)):=by rw[←hF];exact aG (aG (aG HY3.out))
   have hbf:=bS HB1.out HB1.out.size hk (Nat.le_succ_of_le (Xn _));clear hF hk t0 t1 t2 s0 s1 s2;obtain⟨r0,r1,r2,_⟩:=bE hfx;have hlf:=aA hfx;exact bodyPost_ret (v:=.tuple #[.agg #[o0,o1,o2],.bool true]) (by simp[results,results190,go_sem,r0,r1,r2]) rfl ⟨rfl,hbf⟩
end
end Go.Proofs.YtoigglljnklhlaaGreatDoor
