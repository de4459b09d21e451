/- Joined. -/
import Derived.Test.YtoigglljnklhlaaGreatDoorD27
set_option maxHeartbeats 8000000
set_option maxRecDepth 100000
namespace Go.Proofs.YtoigglljnklhlaaGreatDoor
open Go.RowKit Go.Sort
theorem If (k:Nat) (s:ByteArray) (n:Int) (hs:s.size≤10):(zJ k s n).size≤100:=by
 have h1:=iX n;have h2:=fC n;have h3:=iX (n+2);unfold zJ;split
 · rw[ByteArray.size_append,ByteArray.size_append];show 1+_+1≤100;omega
 · split
   · rw[ByteArray.size_append,ByteArray.size_append,ByteArray.size_append];show 1+_+_+1≤100;omega
   · split
     · split<;>omega
     · split
       · rw[ByteArray.size_append,ByteArray.size_append];show 1+_+1≤100;omega
       · split
         · rw[ByteArray.size_append];show 1+_≤100;omega
         · omega
theorem sE (k r n:Int):(eT k r n).size≤100:=by
 unfold eT;split
 · exact If _ _ _ (Nf _ _)
 · exact Nat.zero_le _
def eZ (l:List Op3):List ByteArray:=l.map fun x=>eT x.1 x.2.1 x.2.2
def mP (l:List Op3):ByteArray:=⟨(Lib.join ((eZ l).map (·.data.toList)) [44]).toArray⟩
theorem Sw (l:List Op3):Lib.lens ((eZ l).map (·.data.toList))≤l.length*100:=by
 induction l with
 | nil=>simp[eZ,Lib.lens]
 | cons x l ih =>
   have:=sE x.1 x.2.1 x.2.2
   simp only[eZ,Lib.lens,List.map_cons,List.sum_cons,List.length_cons,List.map_map] at ih ⊢;have e:(eT x.1 x.2.1 x.2.2).data.toList.length=(eT x.1 x.2.1 x.2.2).size:=by simp
   rw[e];omega
theorem yY (l:List Op3):(Lib.join ((eZ l).map (·.data.toList)) [44]).length≤l.length*101:=by
 cases l with
 | nil=>simp[eZ,Lib.join_nil]
 | cons x l =>
   have h1:=sE x.1 x.2.1 x.2.2;have h2:=Sw l;have e:(eT x.1 x.2.1 x.2.2).data.toList.length=(eT x.1 x.2.1 x.2.2).size:=by simp
   have:(Lib.join ((eZ (x::l)).map (·.data.toList)) [44]).length=(eT x.1 x.2.1 x.2.2).data.toList.length+(Lib.joinTail [44] ((eZ l).map (·.data.toList))).length:=by
    rw[←List.length_append,←Lib.join_cons];rfl
   rw[this,Lib.joinTail_length,e];simp only[eZ,List.length_map,List.length_cons,List.length_nil] at h2 ⊢;omega
theorem uW (l:List Op3):(mP l).size≤l.length*101:=by
 have:=yY l
 show (Lib.join ((eZ l).map (·.data.toList)) [44]).toArray.size≤_
 simpa using this
theorem aJs (xs:List (List UInt8)) (y sep:List UInt8) (h:xs≠[]):Lib.join (xs++[y]) sep=Lib.join xs sep++sep++y:=by
 cases xs with
 | nil=>exact absurd rfl h
 | cons x r =>
   rw[List.cons_append,Lib.join_cons,Lib.join_cons];simp[Lib.joinTail]
theorem aFA {a b:ByteArray} (h:a.data.toList=b.data.toList):a=b:=by
 cases a;cases b;simp at h;cases h;rfl
theorem aJr (l:List Op3) (x:Op3) (h:l[0]? = some x):mP (l.take 1)=eT x.1 x.2.1 x.2.2:=by
 cases l with
 | nil=>cases h
 | cons y l =>
   simp at h;subst h
   apply aFA
   simp[mP,eZ,Lib.join_one]
theorem aIP (l:List Op3) (j:Nat) (x:Op3) (h:l[j]? = some x) (h0:0<j):mP (l.take (j+1))=mP (l.take j)++(⟨#[44]⟩:ByteArray)++eT x.1 x.2.1 x.2.2:=by
 apply aFA
 have hne:(eZ (l.take j)).map (·.data.toList)≠[]:=by
  intro e;have h1:=congrArg List.length e
  have:=(List.getElem?_eq_some_iff.1 h).1
  simp only[eZ,List.length_map,List.length_take,List.length_nil] at h1;omega
 have:(eZ (l.take (j+1))).map (·.data.toList)=(eZ (l.take j)).map (·.data.toList)++[(eT x.1 x.2.1 x.2.2).data.toList]:=by
  rw[List.take_add_one,h];simp[eZ]
 simp[mP,this,aJs _ _ _ hne]
end Go.Proofs.YtoigglljnklhlaaGreatDoor
namespace Go.Proofs.YtoigglljnklhlaaGreatDoor
open Go.RowKit Go.Sort
open Go.Proofs.Tryz
theorem Jz (k r n:Int) (w:World) (hT:Tabs w) :
 Calls prog 166 #[.agg #[.int .i64 k,.int .i64 r,.int .i64 n]] w fun e w'=>e=.returned (.string (eT k r n))∧Below w.heap.size w w':=by
 rcases hv:bP k r n with _|_
 · have hr:eT k r n=⟨#[]⟩:=by unfold eT;rw[hv];rfl
   rw[hr];go_enter func166,ntmps166
   go_wp2_with fail
   refine (Vo k r n _ hv).mono ?_;rintro e w1 ⟨rfl,hb⟩;obtain⟨p1,rfl⟩:=aO hb;clear hb;go_wp2_with fail
   go_ret;exact⟨rfl,bl⟩
 · have hr:eT k r n=zJ k.toNat (nm k.toNat r.toNat) n:=by unfold eT;rw[hv];rfl
   obtain⟨a,b,rfl,rfl,h1,h2,h3,h4,h5,h6⟩:=mO hv;rw[Int.toNat_natCast,Int.toNat_natCast] at hr;rw[hr];clear hr hv;have HT:=Hh hT;clear hT;have hent:=Hg a h1 h2;go_enter func166,ntmps166
   go_wp2_with fail
   refine (Na a b n _ h1 h2 h3 h4 h5 h6).mono ?_;rintro e w1 ⟨rfl,hb⟩;obtain⟨p1,rfl⟩:=aO hb;clear hb;go_wp2_with fail
   refine (Ow a (nm a b) n _ (HT.out.below (bl)) h1 h2 (by have:=Xs a;omega) (by have:=Xt a;omega) (Nf a b)).mono ?_;rintro e w1 ⟨rfl,hb⟩;obtain⟨p2,rfl⟩:=aO hb;clear hb;go_wp2_with fail
   go_ret;exact⟨rfl,bl⟩
theorem At (l:List Op3) (j:Nat) (x:Op3) (h:l[j]? = some x):eZ (l.take (j+1))=eZ (l.take j)++[eT x.1 x.2.1 x.2.2]:=by
 rw[List.take_add_one,h];simp[eZ]
theorem Nx (v1:Value) (l:List Op3) (w:World) (h1:Row w v1 l.length (opc l)) (hl:l.length≤1000) (hT:Tabs w) :
 Calls prog 117 #[v1] w fun e w'=>e=.returned (.string (mP l))∧Below w.heap.size w w':=by
 obtain⟨i0,hi,hz0,hz1,hz2⟩:=info_parts Tryz.infoString;obtain⟨a1,c1,rfl,hc1,h1⟩:=h1.op;obtain⟨B,hB⟩:∃ B,w.heap.size=B:=⟨_,rfl⟩;have HT:=Hh hT;clear hT;have H1:=Hh h1;clear h1;have HB:=Hh hB;clear hB;go_enter func117,ntmps117
 go_wp2_with fail
 go_loopw [3,8] (fun v i wr=>∃ j:Nat,j≤l.length∧i=.int .i64 j∧wr.ownsRow B 9 1 v j (fH (eZ (l.take j)))∧Below B w wr) (fun _ i _=>l.length - (intOf i).toNat)
 case atStart=>exact⟨0,Nat.zero_le _,rfl,World.ownsRow_nil _ _ _ _,Below.refl _ _⟩
 case round =>
  obtain⟨j,hj,rfl,hown,hbel⟩:=hrel;have HOWN:=Hh hown;clear hown;have HBEL:=Hh hbel;clear hbel;by_cases hlt:j<l.length
  · obtain⟨⟨x0,x1,x2⟩,hx⟩:∃ x,l[j]? = some x:=⟨_,List.getElem?_eq_getElem hlt⟩;obtain⟨g,o,rfl,hg,hc⟩:=H1.out (by intro e;rw[e] at hlt;exact absurd hlt (Nat.not_lt_zero _))
    obtain⟨cx0,cx1,cx2⟩:=hc j _ hx;clear hc;rw[←HBEL.out.cell (p:=⟨_,_,none⟩) (by rw[←HB.out];exact hg)] at cx0 cx1 cx2;have Hx:=Hh hx;clear hx;have hi0:(0:Int)≤(j:Int):=om
    have hi1:(j:Int)<(l.length:Int):=om
    go_wp2_with fail
    refine (Jz x0 x1 x2 _ ((HT.out.below (by rw[HB.out];exact HBEL.out)).below (bl))).mono ?_;rintro e w1 ⟨rfl,hb⟩;obtain⟨p1,rfl⟩:=aO hb;clear hb;go_wp2_with (at_builtin;refine wpList_append_own _ rfl _ _ 177 rfl B 9 i0 (.string ⟨#[]⟩) 1 16 underlying177 hi hz0 hz1 hz2 rfl dc _ _ _ rfl (iZ HOWN.out (bl)) _ 1 1 [.string (eT x0 x1 x2)] rfl rfl ?c1 ?c2 ?c3 ?c4 ?c5 ?_)
    case c1 =>
     intro q u hq;rw[bD];match q,hq with
     | 0,hq=>simp at hq;subst hq;simp[go_sem]
    case c2=>intro u hu;simp at hu;subst hu;rfl
    case c3=>unfold maxLen;omega
    case c4=>omega
    case c5=>have:=HBEL.out.size;have:=HB.out;simp[go_sem];omega
    intro v' w1 hown' hgrow _;have hsz:B≤wr.heap.size:=by have:=HBEL.out.size;have:=HB.out;omega
    have hb':Below B w w1:=(HBEL.out.trans (Below.mono (show Below wr.heap.size wr _ from bl) hsz)).grown hgrow (by simp[go_sem];omega) (by
     intro q hq
     have:=HOWN.out.2
     rcases this with⟨h,_⟩|⟨g,cap,cur,h,hg,_⟩
     · rw[h] at hq;cases hq
     · rw[h] at hq;cases hq;exact hg)
    have HOWN3:=Hh hown';clear hown';have HB':=Hh hb';clear hb' hgrow;go_wp2_with fail
    go_roundw
    case rel=>exact⟨j+1,om,by go_num,by rw[At l j _ Hx.out,qA];exact HOWN3.out,HB'.out⟩
    case measure=>simp[intOf];omega
  · obtain rfl:j=l.length:=om
    have hrow:=Row.of_owns HOWN.out;rw[List.take_length] at hrow;obtain⟨a2,c2,rfl,hc2,hr⟩:=hrow;have HR:=Hh hr;clear hr;have hjoin:Calls prog 109 #[.slice a2 l.length c2,.string ⟨#[44]⟩] wr fun e w'=>e=.returned (.string (mP l))∧Below wr.heap.size wr w':=by
     by_cases hnil:l=[]
     · subst hnil;exact (Tryz.strings_Join_none a2 c2 ⟨#[44]⟩ wr).mono fun e w' ⟨he,hw⟩=>⟨he,hw ▸ Below.refl _ _⟩
     · have hlen:(eZ l).length=l.length:=by simp[eZ]
       obtain⟨g,o,rfl,hg,hcs⟩:=HR.out (by intro e;have h2:=jN (eZ l);rw[e,hlen] at h2;exact hnil (List.eq_nil_of_length_eq_zero h2.symm))
       have hj:=Tryz.strings_Join g o c2 (eZ l) ⟨#[44]⟩ wr (fun j x hx=>by
        have hjl:j<(eZ l).length:=(List.getElem?_eq_some_iff.1 hx).1;rw[hcs j (by rw[jN];exact hjl)];simp[fH,hx]) hg om om (by have:=yY l;show (Lib.join ((eZ l).map (·.data.toList)) [44]).length≤_;omega)
       rw[hlen] at hj;exact hj
    go_wp2_with fail
    refine hjoin.mono ?_;rintro e w1 ⟨rfl,hb⟩;obtain⟨p1,rfl⟩:=aO hb;clear hb;go_wp2_with fail
    go_ret;refine⟨rfl,?_⟩;rw[HB.out];exact HBEL.out.trans (Below.mono (show Below wr.heap.size wr _ from bl) (by have:=HBEL.out.size;have:=HB.out;omega))
theorem aIc (s:ByteArray):(⟨#[]⟩:ByteArray)++s=s:=by
 apply aFA;simp
def xR (i:aY):ByteArray:=if (gO i).2=0 then ⟨(Lib.trimSuffix ((⟨i.1.toArray⟩:ByteArray)++⟨#[32]⟩++mP (bV i).2).data.toList [32]).toArray⟩ else ⟨#[]⟩
theorem aFd {p:Prop} (h:p:=by
 have:=rZ (w.alloc (.cells #[.string ⟨m.toArray⟩,.slice a l.length c] 53)) [.string ⟨m.toArray⟩,.slice a l.length c] 1 53
 rwa [World.size_alloc] at this):p:=h
theorem Ll (m:List UInt8) (v:Value) (l:List Op3) (w:World) (hT:TabsA w) (hr:Row w v l.length (opc l)) (hl:l.length≤900) (hm:m.length≤1000) (hsz:(mP (bV (m,l)).2).size≤1000000) :
 Calls prog 75 #[eU m v] w fun e w'=>e=.returned (.string (xR (m,l)))∧Below w.heap.size w w':=by
 have hlg:=fun g X (hb:Below w.heap.size w X) h1=>Gz m v l g X (hT.below hb) h1 (hr.below hb) om;have hof:=fun X (hb:Below w.heap.size w X)=>Nb m v l X (hT.below hb) (hr.below hb) hl;have hcl:(bV (m,l)).2.length≤l.length+1:=kM (m,l);unfold xR;obtain⟨C,hC⟩:∃ C,(bV (m,l)).2=C:=⟨_,rfl⟩;rw[hC] at hof hcl hsz ⊢;dsimp only;have hls:=fun X vc (hb:Below w.heap.size w X) h=>Nx vc C X h om (hT.below hb).t;obtain⟨S,hS⟩:∃ S,mP C=S:=⟨_,rfl⟩;rw[hS] at hls hsz ⊢;have hsz2:((⟨m.toArray⟩:ByteArray)++⟨#[32]⟩++S).size≤9223372036854775807:=by
  rw[ByteArray.size_append,ByteArray.size_append];have h1:(⟨m.toArray⟩:ByteArray).size=m.length:=by show m.toArray.size=_;rw[List.size_toArray]
  have h2:(⟨#[32]⟩:ByteArray).size=1:=rfl;omega
 have HSZ:=Hh hsz2;clear hsz2;have HLG:=Hh hlg;have HOF:=Hh hof;have HLS:=Hh hls;clear hlg hof hls hC hS;obtain⟨a,c,rfl,_,_⟩:=hr;by_cases hf:(gO (m,l)).2=0
 · rw[if_pos hf];have hlg2:=HLG.out;rw[decide_eq_true hf] at hlg2;have HL2:=Hh hlg2;clear hlg2 HLG hf;go_enter func75,ntmps75
   go_wp2_with fail
   have hbW:Below w.heap.size w ((w.alloc (.cells #[.string ⟨m.toArray⟩,.slice a l.length c] 53)).alloc (.cells #[.string ⟨m.toArray⟩,.slice a l.length c] 53)):=bl;have hrow:Row ((w.alloc (.cells #[.string ⟨m.toArray⟩,.slice a l.length c] 53)).alloc (.cells #[.string ⟨m.toArray⟩,.slice a l.length c] 53)) (.slice (some ⟨w.heap.size+1,0,none⟩) 1 1) 1 [.string ⟨m.toArray⟩,.slice a l.length c]:=by
    exact aFd
   (with_reducible refine (HL2.out _ _ hbW hrow).mono ?_);rintro e w2 ⟨rfl,hb2⟩;have h0:=aB (aE (o':=.cells #[.string ⟨m.toArray⟩,.slice a l.length c] 53) (aF w (.cells #[.string ⟨m.toArray⟩,.slice a l.length c] 53))) hb2 (by simp;omega);obtain⟨k0,k1,_,_⟩:=aL h0;have hl2:=aA h0;have HB:=Hh (hbW.trans (hb2.mono hbW.size));clear hbW hrow hb2 h0;go_wp2_with fail
   (with_reducible refine (HOF.out _ HB.out).mono ?_);rintro e w3 ⟨v3,rfl,hr3,hb3⟩;obtain⟨a3,c3,hv3,_,_⟩:=hr3.op;subst hv3;have hrow3:=hr3.row;have HB3:=Hh (HB.out.trans (hb3.mono HB.out.size));clear hb3 hr3 k0 k1 hl2;go_wp2_with fail
   obtain⟨W,hW⟩:∃ W,(w3.alloc (.cells #[.string ⟨m.toArray⟩,.slice a3 C.length c3] 53))=W:=⟨_,rfl⟩;have hal:Below w3.heap.size w3 W:=by rw[←hW];exact br.alloc lr _
   have hbk:W.heap[w3.heap.size]? = some (.cells #[.string ⟨m.toArray⟩,.slice a3 C.length c3] 53 (0,0)):=by rw[←hW];exact aF _ _
   rw[hW];clear hW;obtain⟨t0,t1,_,_⟩:=aL hbk;have hlW:=aA hbk;have HBW:=Hh (HB3.out.trans (hal.mono HB3.out.size));have hls2:=fun p=>HLS.out (gw W p) (.slice a3 C.length c3) (HBW.out.trans ((cF W p).mono HBW.out.size)) ((hrow3.below hal).below (cF W p));have HLS2:=Hh hls2;have htr:=fun p=>Tryz.strings_TrimSuffix ((⟨m.toArray⟩:ByteArray)++⟨#[32]⟩++S) ⟨#[32]⟩ (gw W p) HSZ.out;have HTR:=Hh htr;clear hls2 htr hal hbk hrow3;refine bO kr kr ?_;repeat (go_big_quiet_step (first|exact eG (HLS2.out _)|exact mR (by refine (HTR.out _).mono ?_;rintro e w' ⟨h1,h2⟩;exact⟨h1,h2.symm⟩)))
   refine wpQuiet_nil ?_;rintro W3 ⟨p3,hW3⟩;have hb3:Below W.heap.size W W3:=by rw[hW3];exact bl
   clear hW3 p3;have HB4:=Hh (HBW.out.trans (hb3.mono HBW.out.size));clear hb3;go_wp2_with fail
   go_ret;exact⟨rfl,HB4.out⟩
 · rw[if_neg hf];have hlg2:=HLG.out;rw[decide_eq_false hf] at hlg2;have HL2:=Hh hlg2;clear hlg2 HLG hf;go_enter func75,ntmps75
   go_wp2_with fail
   have hbW:Below w.heap.size w ((w.alloc (.cells #[.string ⟨m.toArray⟩,.slice a l.length c] 53)).alloc (.cells #[.string ⟨m.toArray⟩,.slice a l.length c] 53)):=bl;have hrow:Row ((w.alloc (.cells #[.string ⟨m.toArray⟩,.slice a l.length c] 53)).alloc (.cells #[.string ⟨m.toArray⟩,.slice a l.length c] 53)) (.slice (some ⟨w.heap.size+1,0,none⟩) 1 1) 1 [.string ⟨m.toArray⟩,.slice a l.length c]:=by
    exact aFd
   (with_reducible refine (HL2.out _ _ hbW hrow).mono ?_);rintro e w2 ⟨rfl,hb2⟩;have HB:=Hh (hbW.trans (hb2.mono hbW.size));clear hbW hrow hb2;go_wp2_with fail
   go_ret;exact⟨rfl,HB.out⟩
theorem wL:∀ n:Fin 256,(aX (n.val:Int)).size≤6:=by decide +kernel
theorem Bz (x:UInt8):(aX (x.toNat:Int)).size≤6:=wL ⟨x.toNat,x.toNat_lt⟩
def uZ (l:List ByteArray):ByteArray:=⟨(Lib.join (l.map (·.data.toList)) [44]).toArray⟩
theorem Oh:(prog.info? 9).map (fun i=>(i.zero,i.size,i.bytes))=some (some (.string ⟨#[]⟩),1,16):=by kernel_rfl
theorem Ec (M:Nat):∀ l:List (List UInt8),(∀ x∈l,x.length≤M)→(Lib.joinTail [44] l).length≤l.length*(M+1)
 | [],_=>by simp[Lib.joinTail]
 | x::l,h=>by
   have h1:=h x (List.mem_cons_self ..);have h2:=Ec M l fun y hy=>h y (List.mem_cons_of_mem _ hy);unfold Lib.joinTail at h2 ⊢;rw[List.map_cons,List.flatten_cons,List.length_append,List.length_append,List.length_cons,List.length_cons,Nat.succ_mul];simp only[List.length_nil];omega
theorem Hn (l:List ByteArray) (v:Value) (w:World) (hr:Row w v l.length (fH l)) (hl:l.length≤1000000) (hj:(Lib.join (l.map (·.data.toList)) [44]).length≤100000000000000) :
 Calls prog 109 #[v,.string ⟨#[44]⟩] w fun e w'=>e=.returned (.string (uZ l))∧Below w.heap.size w w':=by
 obtain⟨a,k,rfl,hk,hc⟩:=hr;by_cases hnil:l=[]
 · subst hnil;exact (Tryz.strings_Join_none a k ⟨#[44]⟩ w).mono fun e w' ⟨he,hw⟩=>⟨he,hw ▸ Below.refl _ _⟩
 · obtain⟨g,o,rfl,hg,hcs⟩:=hc (by intro e;have h2:=jN l;rw[e] at h2;exact hnil (List.eq_nil_of_length_eq_zero h2.symm))
   exact Tryz.strings_Join g o k l ⟨#[44]⟩ w (fun j x hx=>by
    have hjl:j<l.length:=(List.getElem?_eq_some_iff.1 hx).1;rw[hcs j (by rw[jN];exact hjl)];simp[fH,hx]) hg om om (by show (Lib.join (l.map (·.data.toList)) [44]).length≤_;omega)
theorem Qs (p B k:Nat) (l:List ByteArray) (v:Value) (s:ByteArray) (w:World) (hb:Boxed w p 177 v) (hown:w.ownsRow B 9 1 v l.length (fH l)) (hc:w.cell? ⟨k,0,none⟩=some (.string s)) (hB:B≤w.heap.size) (hp:B≤p) (hl:l.length≤1000000) :
 Calls prog 133 #[.slice (some ⟨k,0,none⟩) 1 1,.pointer (some ⟨p,0,none⟩)] w fun e w'=>e=.returned (.tuple #[])∧∃ v',Boxed w' p 177 v'∧w'.ownsRow B 9 1 v' (l.length+1) (fH l++[.string s])∧Below B w w':=by
 obtain⟨i0,hi,hz0,hz1,hz2⟩:=info_parts Oh;obtain⟨a,c,rfl⟩:=aI hown;have c0:=hb.cell;have f0:=hb.frozen;have hlp:=hb.lt;have HB:=Hh hb;have HO:=Hh hown;have HC:=Hh (show ∀ (j:Nat) (u:Value),[Value.string s][j]? = some u→w.cell? ((⟨k,0,none⟩:Addr).add j)=some u from fun j u hu=>by
  have hj:=(List.getElem?_eq_some_iff.1 hu).1;obtain rfl:j=0:=by simpa using hj
  simp at hu;subst hu
  rw[bD];exact hc)
 clear hb hown;go_enter func133,ntmps133
 go_wp2_with (at_builtin;refine wpList_append_own _ rfl _ _ 177 rfl B 9 i0 (.string ⟨#[]⟩) 1 16 underlying177 hi hz0 hz1 hz2 rfl dc _ _ _ rfl HO.out ⟨k,0,none⟩ 1 1 [.string s] rfl rfl HC.out (fun u hu=>by simp at hu;subst hu;rfl) (by unfold maxLen;omega) om hB ?_)
 intro v' w1 hown' hg1 _;have hb1:Boxed w1 p 177 (.slice a l.length c):=HB.out.kept hg1 (HB.out.not_row dc HO.out);have hbw:Below B w w1:=(Below.refl B w).grown hg1 hB (fun q hq=>(HO.out.lt q hq).1);have hb2:=hb1.set v';have ho2:=hown'.kept (grownBy_setCell' w1 p v') (.inr (hb1.not_row dc hown').symm);have HB2:=Hh hb2;have HO2:=Hh ho2;have HBW:=Hh (hbw.setCell (p:=⟨p,0,none⟩) hp v');have c1:=hb1.cell;have f1:=hb1.frozen;have hl1:=hb1.lt;obtain⟨g',cap',rfl⟩:=ownsRow_succ hown';clear hown' hg1 hb1 hbw hb2 ho2 HC HB HO;go_wp2_with fail
 go_end0
 exact⟨rfl,_,HB2.out,HO2.out,HBW.out⟩
def jY (bs:List UInt8):List ByteArray:=bs.map fun x=>aX (x.toNat:Int)
def vM (bs:List UInt8):ByteArray:=if bs=[] then ⟨#[]⟩ else ⟨#[68,69,70,66,32]⟩++uZ (jY bs)
theorem yZ (l:List ByteArray) (M:Nat) (h:∀ x∈l,x.size≤M):(Lib.join (l.map (·.data.toList)) [44]).length≤l.length*(M+1):=by
 cases l with
 | nil=>simp[Lib.join_nil]
 | cons x l =>
   have h1:x.data.toList.length≤M:=by have:=h x (List.mem_cons_self ..);rw[Array.length_toList];exact this
   have h2:=Ec M (l.map (·.data.toList)) fun y hy=>by
    obtain⟨z,hz,rfl⟩:=List.mem_map.1 hy
    have:=h z (List.mem_cons_of_mem _ hz)
    rw[Array.length_toList];exact this
   rw[List.map_cons,Lib.join_cons,List.length_append,List.length_cons,Nat.succ_mul];rw[List.length_map] at h2;omega
theorem Ff (bs:List UInt8):∀ x∈jY bs,x.size≤6:=fun x hx=>by
 obtain⟨y,_,rfl⟩:=List.mem_map.1 hx;exact Bz y
theorem Dj (bs:List UInt8):(vM bs).size≤5+bs.length*7:=by
 unfold vM;split
 · show 0≤_;omega
 · have h:=yZ (jY bs) 6 (Ff bs);rw[ByteArray.size_append];have e:(uZ (jY bs)).size=(Lib.join ((jY bs).map (·.data.toList)) [44]).length:=by show (Lib.join _ _).toArray.size=_;simp
   rw[e]
   have:(jY bs).length=bs.length:=by simp[jY]
   rw[this] at h;show 5+_≤_
   omega
theorem Ja (bs:List UInt8) (v:Value) (w:World) (hT:Tabs w) (hv:Row w v bs.length (aT bs)) (hl:bs.length≤100000) :
 Calls prog 93 #[v] w fun e w'=>e=.returned (.string (vM bs))∧Below w.heap.size w w':=by
 obtain⟨a,c,rfl,hcap,hh⟩:=hv.byt;by_cases hnil:bs=[]
 · subst hnil;clear hh hT hv;go_enter func93,ntmps93
   go_wp2_with fail
   go_ret;exact⟨rfl,Below.refl _ _⟩
 obtain⟨g,o,rfl,hg,hcs⟩:=hh hnil;have hz:((bs.length:Int) == 0)=false:=by
  have:=List.length_pos_iff.2 hnil
  simp;omega
 have HNT:=Hh (fun X (hb:Below w.heap.size w X) (n:Int)=>fD n X (hT.below hb));have HCS:=Hh hcs;have HNIL:=Hh hnil;clear hh hT hv hcs hnil;go_enter func93,ntmps93
 go_wp2_with fail
 obtain⟨w1,hw1⟩:∃ w1,w.alloc (.cells #[.slice none 0 0] 177)=w1:=⟨_,rfl⟩;have hb1:Below w.heap.size w w1:=by rw[←hw1];exact br.alloc lr _
 have hx1:Boxed w1 w.heap.size 177 (.slice none 0 0):=by rw[←hw1];exact Boxed.new w _ _
 rw[hw1];have HX1:=Hh hx1;have HB1:=Hh hb1;clear hw1 hx1 hb1;go_loopw [13] (fun i wr=>∃ j:Nat,j≤bs.length∧i=.int .i64 j∧∃ v,Hid (Boxed wr w.heap.size 177 v)∧Hid (wr.ownsRow w.heap.size 9 1 v j (fH (jY (bs.take j))))∧Hid (Below w.heap.size w wr)) (fun i _=>bs.length - (intOf i).toNat)
 case atStart=>exact⟨0,Nat.zero_le _,rfl,_,HX1,Hh (World.ownsRow_nil _ _ _ _),HB1⟩
 case round =>
  obtain⟨j,hj,rfl,v,HX,HO,HB⟩:=hrel;have hdl:(jY (bs.take j)).length=j:=by simp[jY];omega
  by_cases hlt:j<bs.length
  · obtain⟨x,hx⟩:∃ x,bs[j]? = some x:=⟨_,List.getElem?_eq_getElem hlt⟩;have m0:=(HB.out.cell (p:=⟨g,o+j,none⟩) hg).trans (HCS.out j x hx);have hi0:(0:Int)≤(j:Int):=om
    have hi1:(j:Int)<(bs.length:Int):=om
    have hst:jY (bs.take (j+1))=jY (bs.take j)++[aX (x.toNat:Int)]:=by rw[List.take_add_one,hx];simp[jY]
    have HST:=Hh hst;have HDL:=Hh hdl;have hwx:wrap64 (x.toNat:Int)=(x.toNat:Int):=by have:=x.toNat_lt;unfold wrap64;omega
    clear hx hst hdl;go_wp2_with fail
    (with_reducible refine (HNT.out _ HB.out _).mono ?_);rintro e w3 ⟨rfl,hb3⟩;obtain⟨av,cv,rfl⟩:=aI HO.out;have hal:Below w3.heap.size w3 (w3.alloc (.cells #[.string (aX (x.toNat:Int))] 9)):=br.alloc lr _;have hb4:=hb3.trans (hal.mono hb3.size);have hx4:=aB HX.out hb4 HX.out.lt;have ho4:=bK HO.out hb4;have hw4:=HB.out.trans (hb4.mono HB.out.size);have HX4:=Hh (show Boxed (w3.alloc (.cells #[.string (aX (x.toNat:Int))] 9)) w.heap.size 177 (.slice av j cv) from hx4);have HO4:=Hh ho4;have HW4:=Hh hw4
    clear hal hb4 hx4 ho4 hw4 hb3 HX HO HB m0;go_wp2_with fail
    (with_reducible refine (Qs w.heap.size w.heap.size w3.heap.size (jY (bs.take j)) (.slice av j cv) (aX (x.toNat:Int)) _ HX4.out (by rw[HDL.out];exact HO4.out) (aC (aF _ _) 0) HW4.out.size lr (by rw[HDL.out];omega)).mono ?_);rintro e w5 ⟨rfl,v5,hx5,ho5,hb5⟩;have HX5:=Hh hx5;have HB5:=Hh (HW4.out.trans hb5);rw[HDL.out] at ho5;have HO5:=Hh ho5;clear hx5 ho5 hb5;go_wp2_with fail
    go_roundw
    case rel=>exact⟨j+1,om,by go_num,v5,HX5,Hh (by rw[HST.out,qA];exact HO5.out),HB5⟩
    case measure=>simp[intOf];omega
  · obtain rfl:j=bs.length:=om
    rw[List.take_length] at HO hdl;have HJ:=Hh (yZ (jY bs) 6 (Ff bs));have c0:=HX.out.cell;have hlp:=HX.out.lt;have hds:vM bs=⟨#[68,69,70,66,32]⟩++uZ (jY bs):=by unfold vM;rw[if_neg HNIL.out]
    obtain⟨av,cv,rfl⟩:=aI HO.out;have HDS:=Hh hds;have HDL:=Hh hdl;have hjs:(uZ (jY bs)).size≤700000:=by
     have h1:=HJ.out;have e:(uZ (jY bs)).size=(Lib.join ((jY bs).map (·.data.toList)) [44]).length:=by show (Lib.join _ _).toArray.size=_;simp
     rw[hdl] at h1;omega
    clear hds hdl;go_wp2_with fail
    (with_reducible refine (Hn (jY bs) (.slice av bs.length cv) _ (by rw[HDL.out];exact Row.of_owns HO.out) (by rw[HDL.out];omega) (by have h1:=HJ.out;have h2:=HDL.out;rw[h2] at h1;omega)).mono ?_);rintro e w4 ⟨rfl,hb4⟩;have HB4:=Hh (HB.out.trans (hb4.mono HB.out.size));clear hb4;go_wp2_with fail
    go_ret;exact⟨by rw[HDS.out];rfl,HB4.out⟩
def dH (x:It):ByteArray:=if dR x then xR x.ins else vM x.raw
theorem Hq (x:It) (vr va:Value) (w:World) (hT:TabsA w) (hr:Row w vr x.raw.length (aT x.raw)) (ha:Row w va x.ins.2.length (opc x.ins.2)) (hrl:x.raw.length≤100000) (hal:x.ins.2.length≤900) (hml:x.ins.1.length≤1000) :
 Calls prog 59 #[itV x vr va] w fun e w'=>e=.returned (.string (dH x))∧Below w.heap.size w w':=by
 have hcl:(bV (x.ins.1,x.ins.2)).2.length≤x.ins.2.length+1:=kM (x.ins.1,x.ins.2);have hls:=uW (bV (x.ins.1,x.ins.2)).2;have hD:=fun X (hb:Below w.heap.size w X)=>Ja x.raw vr X (hT.below hb).t (hr.below hb) hrl;have hS:=fun X (hb:Below w.heap.size w X)=>Ll x.ins.1 va x.ins.2 X (hT.below hb) (ha.below hb) hal hml om;obtain⟨ki,ra,⟨im,ia⟩,ial⟩:=x;dsimp only at hr ha hD hS;obtain⟨ar,cr,rfl,_,_⟩:=hr;obtain⟨aa,ca,rfl,_,_⟩:=ha;have fin:(dR ⟨ki,ra,(im,ia),ial⟩=true∧ki=1∧ial=false)∨(dR ⟨ki,ra,(im,ia),ial⟩=false∧ki=1∧ial=true)∨(dR ⟨ki,ra,(im,ia),ial⟩=false∧((ki:Int) != 1)=true):=by
  unfold dR;by_cases h:ki=1
  · cases ial<;>simp[h]
  · exact .inr (.inr ⟨by simp[h],by simp;omega⟩)
 have HD:=Hh hD;have HS:=Hh hS;unfold dH;clear hD hS hT hcl hls;dsimp only[itV,eU] at HS ⊢;have HBL:=Hh (fun X (hX:Below w.heap.size w X)=>hX);rcases fin with⟨hf,rfl,rfl⟩|⟨hf,rfl,rfl⟩|⟨hf,hk1⟩;all_goals
  rw[hf];clear hf;go_enter func59,ntmps59
  go_wp2_with fail
  first
   | (with_reducible refine (HS.out _ (br.alloc lr _)).mono ?_)
   | (with_reducible refine (HD.out _ (br.alloc lr _)).mono ?_)
  rintro e w2 ⟨rfl,hb2⟩;have HB2:=Hh (((Below.refl w.heap.size w).alloc lr _).trans (hb2.mono (by rw[World.size_alloc];omega)));clear hb2;go_wp2_with fail
  go_ret;exact⟨rfl,HB2.out⟩
end Go.Proofs.YtoigglljnklhlaaGreatDoor
namespace Go.Proofs.YtoigglljnklhlaaGreatDoor
open Go.RowKit Go.Sort
theorem Fs (u p:List UInt8):(Lib.trimSuffix u p).length≤u.length:=by unfold Lib.trimSuffix;split<;>(try rw[List.length_take])<;>omega
def Vw (p op:Nat):Bool:=match (atP p op).1 with|some e=>decide (e.mn.length≤100) && decide (e.args.length≤100)|none=>true
theorem Ta:∀ p:Fin 7,∀ op:Fin 256,Vw p.val op.val=true:=by decide +kernel
def Am (x:It):Prop:=x.ins.1.length≤100∧x.ins.2.length≤100
theorem uX {b:List UInt8} {e:Ent} {early:Bool} {rest:List UInt8} {d:Int} {x:It} (h1:e.mn.length≤100) (h2:e.args.length≤100) (h:lM b e early rest d=some x):Am x:=by
 unfold lM at h;obtain⟨y,_,rfl⟩:=Option.map_eq_some_iff.1 h;unfold Am bU;split
 · exact⟨h1,by show (qT _ _ _).length≤_;rw[Pb];exact h2⟩
 · exact⟨by show ([]:List UInt8).length≤_;simp,by show ([]:List Op3).length≤_;simp⟩
theorem Si {p:Nat} (op:UInt8):cR p op<7:=by unfold cR;split<;>(try omega);split<;>(try omega);split<;>(try omega);split<;>(try omega);split<;>omega
theorem zB:∀ (f p:Nat) (b r:List UInt8) (x:It),p<7→dW f p b r=some x→Am x
 | 0,p,b,r,x,hp,h=>by simp[dW] at h
 | f+1,p,b,r,x,hp,h=>by
   rw[dW] at h;split at h
   · cases h
   · cases h
   · rename_i d op r2 _;split at h
     · exact zB f _ b r2 x (Si op) h
     · split at h
       · cases h;exact⟨by simp,by simp⟩
       · split at h
         · cases h;exact⟨by simp,by simp⟩
         · have hk:=Ta ⟨p,hp⟩ ⟨op.toNat,op.toNat_lt⟩;unfold Vw at hk;dsimp only at hk;cases he:(atP p op.toNat).1 with
           | none=>rw[he] at h;exact uX sm sm h
           | some e =>
             rw[he] at h hk;simp only[Bool.and_eq_true,decide_eq_true_eq] at hk;exact uX hk.1 hk.2 h
theorem Ik (b:List UInt8):Am (bX b):=by
 unfold bX;split
 · exact⟨by simp,by simp⟩
 · cases h:dW 3 0 b b with
   | none=>exact⟨by simp,by simp⟩
   | some x=>exact zB 3 0 b b x om h
theorem xA:∀ (f:Nat) (b:List UInt8),∀ x∈oO f b,Am x
 | 0,b,x,h=>by simp[oO] at h
 | f+1,b,x,h=>by
   rw[oO] at h;split at h
   · simp at h
   · rcases List.mem_cons.1 h with rfl|h
     · exact Ik b
     · exact xA f _ x h
def tS (a:Nat):List UInt8:=[9,79,82,71,32]++(aX (a:Int)).data.toList++[10]
theorem Bc (i:aY) (h1:i.1.length≤100) (h2:i.2.length≤100):(xR i).size≤20000:=by
 unfold xR;split
 · have h3:=Fs ((⟨i.1.toArray⟩:ByteArray)++⟨#[32]⟩++mP (bV i).2).data.toList [32];have h4:=uW (bV i).2;have h5:(bV i).2.length≤i.2.length+1:=kM i;have e:((⟨i.1.toArray⟩:ByteArray)++⟨#[32]⟩++mP (bV i).2).data.toList.length=i.1.length+1+(mP (bV i).2).size:=by
    rw[Array.length_toList];show ((⟨i.1.toArray⟩:ByteArray)++⟨#[32]⟩++mP (bV i).2).size=_
    rw[ByteArray.size_append,ByteArray.size_append];show i.1.toArray.size+1+_=_
    simp
   rw[e] at h3;show (Lib.trimSuffix _ _).toArray.size≤_
   rw[List.size_toArray];omega
 · show 0≤_;omega
theorem Cp (x:It) (h:Am x):(dH x).size≤20005+x.raw.length*7:=by
 unfold dH;split
 · have:=Bc x.ins h.1 h.2;omega
 · have:=Dj x.raw;omega
end Go.Proofs.YtoigglljnklhlaaGreatDoor
