/- Joined. -/
import Derived.Test.YtoigglljnklhlaaGreatDoorD27
import Derived.Test.YtoigglljnklhlaaGreatDoorD34
set_option maxHeartbeats 8000000
set_option maxRecDepth 100000
namespace Go.Proofs.YtoigglljnklhlaaGreatDoor
open Go.RowKit Go.Sort
open Go.Proofs.Tryz
theorem aIj (k r n:Int) (w:World) (hk:k=1∨k=2∨k=3∨k=4∨k=8∨k=9) (hv:bP k r n=true) :
 Calls prog 143 #[.agg #[k,r,n]] w fun e w'=>e=.returned (.string (aGW k r))∧Below w w w':=by
 have hn:=fun w=>aHo k r w om;have HV:=Hh hv;clear hv;rcases hk with rfl|rfl|rfl|rfl|rfl|rfl;all_goals
  go_enter func143,ntmps143
  go_wp2_with fail
  refine (aGZ _ r n _).mono ?_;rintro e w1 ⟨rfl,hb⟩;obtain⟨p1,rfl⟩:=aO hb;clear hb;rw[HV.out];go_wp2_with fail
  refine (hn _).mono ?_;rintro e w1 ⟨rfl,hb⟩;obtain⟨p2,rfl⟩:=aO hb;clear hb hn;go_wp2_with fail
  go_ret;exact⟨rfl,bl⟩
theorem aIG (k r n:Int) (w:World) (hv:bP k r n=false) :
 Calls prog 143 #[.agg #[k,r,n]] w fun e w'=>e=.returned ()∧Below w w w':=by
 have HV:=Hh hv;clear hv;go_enter func143,ntmps143
 go_wp2_with fail
 refine (aGZ _ r n _).mono ?_;rintro e w1 ⟨rfl,hb⟩;obtain⟨p1,rfl⟩:=aO hb;clear hb;rw[HV.out];go_wp2_with fail
 go_ret;exact⟨rfl,bl⟩
theorem aJk (r n:Int) (w:World) (hv:bP 5 r n=true) :
 Calls prog 143 #[.agg #[(5:Int),r,n]] w fun e w'=>e=.returned (.string ((⟨#[40]⟩:ByteArray)++aGW 5 r++eI n++(⟨#[41]⟩:ByteArray)))∧Below w w w':=by
 obtain⟨a,b,h1,h2,h3,h4,h5,h6,h7,h8⟩:=mO hv;obtain rfl:a=5:=om
 subst h2;simp only[klo,khi] at h7 h8;have hl1:=iX n;have hl2:(aGW 5 b).size≤10:=aJm ⟨5,om⟩ ⟨b,h5⟩
 clear h1;have HV:=Hh hv;clear hv;go_enter func143,ntmps143
 go_wp2_with fail
 refine (aGZ _ b n _).mono ?_;rintro e w1 ⟨rfl,hb⟩;obtain⟨p1,rfl⟩:=aO hb;clear hb;rw[HV.out];go_wp2_with fail
 refine bO kr kr ?_;repeat (go_big_quiet_step (first|exact eG (aHo 5 b _ om)|exact mR (aHm n _ om om)))
 refine wpQuiet_nil ?_;rintro _ ⟨p2,rfl⟩;go_wp2_with fail
 go_ret;exact⟨rfl,bl⟩
theorem aJB (r n:Int) (w:World) (hn:n<0) (h7:-32768≤n) (HV:Hid (bP 6 r n=true)) :
 Calls prog 143 #[.agg #[(6:Int),r,n]] w fun e w'=>e=.returned (.string (eI n))∧Below w w w':=by
 go_enter func143,ntmps143
 go_wp2_with fail
 refine (aGZ 6 r n _).mono ?_;rintro e w1 ⟨rfl,hb⟩;obtain⟨p1,rfl⟩:=aO hb;clear hb;rw[HV.out];go_wp2_with fail
 refine (aHm n _ om om).mono ?_;rintro e w1 ⟨rfl,rfl⟩;go_wp2_with fail
 go_ret;exact⟨rfl,bl⟩
theorem aJA (r n:Int) (w:World) (hn:¬ n<0) (HV:Hid (bP 6 r n=true)) :
 Calls prog 143 #[.agg #[(6:Int),r,n]] w fun e w'=>e=.returned (.string (aX n))∧Below w w w':=by
 go_enter func143,ntmps143
 go_wp2_with fail
 refine (aGZ 6 r n _).mono ?_;rintro e w1 ⟨rfl,hb⟩;obtain⟨p1,rfl⟩:=aO hb;clear hb;rw[HV.out];go_wp2_with fail
 refine (aDA n _).mono ?_;rintro e w1 ⟨rfl,rfl⟩;go_wp2_with fail
 go_ret;exact⟨rfl,bl⟩
theorem aJP (r n:Int) (w:World) (HV:Hid (bP 7 r n=true)) :
 Calls prog 143 #[.agg #[(7:Int),r,n]] w fun e w'=>e=.returned (.string ((⟨#[40]⟩:ByteArray)++aX n++(⟨#[41]⟩:ByteArray)))∧Below w w w':=by
 have hl:=fC n;go_enter func143,ntmps143
 go_wp2_with fail
 refine (aGZ 7 r n _).mono ?_;rintro e w1 ⟨rfl,hb⟩;obtain⟨p1,rfl⟩:=aO hb;clear hb;rw[HV.out];go_wp2_with fail
 refine (aDA n _).mono ?_;rintro e w1 ⟨rfl,rfl⟩;go_wp2_with fail
 go_ret;exact⟨rfl,bl⟩
theorem aJC (r n:Int) (w:World) (h7:-128≤n) (h8:n≤127) (HV:Hid (bP 10 r n=true)) :
 Calls prog 143 #[.agg #[(10:Int),r,n]] w fun e w'=>e=.returned (.string ((⟨#[36]⟩:ByteArray)++eI (n+2)))∧Below w w w':=by
 have hl:=iX (n+2);go_enter func143,ntmps143
 go_wp2_with fail
 refine (aGZ 10 r n _).mono ?_;rintro e w1 ⟨rfl,hb⟩;obtain⟨p1,rfl⟩:=aO hb;clear hb;rw[HV.out];go_wp2_with fail
 refine (aHm (n+2) _ om om).mono ?_;rintro e w1 ⟨rfl,rfl⟩;go_wp2_with fail
 go_ret;exact⟨rfl,bl⟩
theorem aHN (k r n:Int) (w:World) :
 Calls prog 143 #[.agg #[k,r,n]] w fun e w'=>e=.returned (.string (eT k r n))∧Below w w w':=by
 rcases hv:bP k r n with _|_
 · have:eT k r n=⟨#[]⟩:=by unfold eT;rw[hv];rfl
   rw[this];exact aIG k r n w hv
 · obtain⟨a,b,h1,h2,h3,h4,h5,h6,h7,h8⟩:=mO hv;subst h1;by_cases h1:a=1∨a=2∨a=3∨a=4∨a=8∨a=9
   · rw[aHZ a r n h1 hv];exact aIj a r n w om hv
   · have ht:eT a r n=zJ a (nm a r.toNat) n:=by unfold eT;rw[hv,if_pos rfl,Xl]
     have h9:a=5∨a=6∨a=7∨a=10:=om
     rcases h9 with rfl|rfl|rfl|rfl
     · rw[show eT ((5:Nat):Int) r n=eT 5 r n from rfl,aIM r n hv]
       exact aJk r n w hv
     · rw[ht];show Calls _ _ _ _ fun e w'=>e=.returned (.string (if n<0 then eI n else aX n))∧_
       by_cases hn:n<0
       · rw[if_pos hn];exact aJB r n w hn h7 hv
       · rw[if_neg hn];exact aJA r n w hn hv
     · rw[ht];exact aJP r n w hv
     · rw[ht];exact aJC r n w h7 h8 hv
theorem aJn (v1:Value) (l:List Op3) (w:World) (h1:Row w v1 l.length (opc l)) (hl:l.length≤1000) :
 Calls prog 99 #[v1] w fun e w'=>e=.returned (.string (mP l))∧Below w w w':=by
 obtain⟨a1,c1,rfl,hc1,h1⟩:=h1.op;have H1:=Hh h1;clear h1;go_enter func99,ntmps99
 go_wp2_with fail
 go_loopw [3,4] (fun s i wr=>∃ j:Nat,j≤l.length∧i=.int .i64 j∧s=.string (mP (l.take j))∧Below w w wr) (fun _ i _=>l.length - (intOf i).toNat)
 case atStart=>exact⟨0,Qi _,rfl,rfl,Below.refl _ _⟩
 case round =>
  obtain⟨j,hj,rfl,rfl,hbel⟩:=hrel;by_cases hlt:j<l.length
  · obtain⟨⟨x0,x1,x2⟩,hx⟩:∃ x,l[j]? = some x:=⟨_,Qb hlt⟩;obtain⟨g,o,rfl,hg,hc⟩:=H1.out (by intro e;rw[e] at hlt;exact absurd hlt (Qw _))
    obtain⟨cx0,cx1,cx2⟩:=hc j _ hx;clear hc;rw[←hbel.cell (p:=⟨_,_,none⟩) hg] at cx0 cx1 cx2;have HBEL:=Hh hbel;clear hbel;have hi0:(0:Int)≤(j:Int):=om
    have hi1:(j:Int)<(l.length:Int):=om
    have hs1:=uW (l.take j);rw[Qt,Yz hj] at hs1;have hs2:=sE x0 x1 x2;rcases Nat.eq_zero_or_pos j with h0|h0
    · subst h0;have hsucc:=aJr l _ hx;have Hs:=Hh hsucc;clear hsucc hx hs1;rw[show mP (l.take 0)=⟨#[]⟩ from rfl]
      simp only[Yr,Xu] at cx0 cx1 cx2;go_wp2_with fail
      refine (aHN x0 x1 x2 _).mono ?_;rintro e w1 ⟨rfl,hb⟩;obtain⟨p1,rfl⟩:=aO hb;clear hb;go_wp2_with fail
      go_roundw
      case rel=>exact⟨1,om,by go_num,by rw[Hs.out,aIc],HBEL.out.trans (Below.mono (show Below wr wr _ from bl) HBEL.out.size)⟩
      case measure=>simp[intOf];omega
    · have hsucc:=aIP l j _ hx h0;have Hs:=Hh hsucc;clear hsucc hx;have hi2:(0:Int)<(j:Int):=om
      generalize mP (l.take j)=S at hs1 Hs ⊢;go_wp2_with fail
      refine (aHN x0 x1 x2 _).mono ?_;rintro e w1 ⟨rfl,hb⟩;obtain⟨p1,rfl⟩:=aO hb;clear hb;go_wp2_with fail
      go_roundw
      case rel=>exact⟨j+1,om,by go_num,by rw[Hs.out],HBEL.out.trans (Below.mono (show Below wr wr _ from bl) HBEL.out.size)⟩
      case measure=>simp[intOf];omega
  · obtain rfl:j=l.length:=om
    rw[Qy];go_wp2_with fail
    go_ret;exact⟨rfl,hbel⟩
theorem wL:∀ n:Fin 256,(aX (n.val:Int)).size≤6:=by decide +kernel
theorem Bz (x:UInt8):(aX (x.toNat:Int)).size≤6:=wL ⟨x.toNat,x.toNat_lt⟩
def uZ (l:List ByteArray):ByteArray:=⟨(Lib.join (l.map (·.data.toList)) [44]).toArray⟩
theorem Oh:(prog.info? 9).map (fun i=>(i.zero,i.size,i.bytes))=some (some (.string ⟨#[]⟩),1,16):=by kernel_rfl
theorem Ec (M:Nat):∀ l:List (List UInt8),(∀ x∈l,x.length≤M)→(Lib.joinTail [44] l).length≤l.length*(M+1)
 | [],_=>by simp[Lib.joinTail]
 | x::l,h=>by
   have h1:=h x (Qq ..);have h2:=Ec M l fun y hy=>h y (Qv _ hy);unfold Lib.joinTail at h2 ⊢;rw[Xt,List.flatten_cons,Qc,Qc,Qp,Qp,Zc];simp only[Qz];omega
theorem Hn (l:List ByteArray) (v:Value) (w:World) (hr:Row w v l.length (fH l)) (hl:l.length≤1000000) (hj:(Lib.join (l.map (·.data.toList)) [44]).length≤100000000000000) :
 Calls prog 109 #[v,.string ⟨#[44]⟩] w fun e w'=>e=.returned (.string (uZ l))∧Below w w w':=by
 obtain⟨a,k,rfl,hk,hc⟩:=hr;by_cases hnil:l=[]
 · subst hnil;exact (Tryz.strings_Join_none a k ⟨#[44]⟩ w).mono fun e w' ⟨he,hw⟩=>⟨he,hw ▸ Below.refl _ _⟩
 · obtain⟨g,o,rfl,hg,hcs⟩:=hc (by intro e;have h2:=jN l;rw[e] at h2;exact hnil (Xc h2.symm))
   exact Tryz.strings_Join g o k l ⟨#[44]⟩ w (fun j x hx=>by
    have hjl:j<l.length:=(Qd.1 hx).1;rw[hcs j (by rw[jN];exact hjl)];simp[fH,hx]) hg om om (by show (Lib.join (l.map (·.data.toList)) [44]).length≤_;omega)
theorem aPm (p B k:Nat) (l:List ByteArray) (v:Value) (s:ByteArray) (w:World) (hb:Boxed w p 177 v) (hown:w.ownsRow B 9 1 v l.length (fH l)) (hc:w.cell? k=some (.string s)) (hB:B≤w) (hp:B≤p) (hl:l.length≤1000000) :
 Calls prog 133 #[.slice k 1 1,.pointer p] w fun e w'=>e=.returned (.tuple #[])∧∃ v',Boxed w' p 177 v'∧w'.ownsRow B 9 1 v' (l.length+1) (fH l++[.string s])∧Below B w w':=by
 obtain⟨i0,hi,hz0,hz1,hz2⟩:=info_parts Oh;obtain⟨a,c,rfl⟩:=aI hown;have c0:=hb.cell;have f0:=hb.frozen;have hlp:=hb.lt;have HB:=Hh hb;have HO:=Hh hown;have HC:=Hh (show ∀ (j:Nat) (u:Value),[Value.string s][j]? = some u→w.cell? ((⟨k,0,none⟩:Addr).add j)=some u from fun j u hu=>by
  have hj:=(Qd.1 hu).1;obtain rfl:j=0:=by simpa using hj
  simp at hu;subst hu
  rw[bD];exact hc)
 clear hb hown;go_enter func133,ntmps133
 go_wp2_with (at_builtin;refine wpList_append_own _ rfl _ _ 177 rfl B 9 i0 (.string ⟨#[]⟩) 1 16 underlying177 hi hz0 hz1 hz2 rfl dc _ _ _ rfl HO.out ⟨k,0,none⟩ 1 1 [.string s] rfl rfl HC.out (fun u hu=>by simp at hu;subst hu;rfl) (by unfold maxLen;omega) om hB ?_)
 intro v' w1 hown' hg1 _;have hb1:Boxed w1 p 177 (.slice a l.length c):=HB.out.kept hg1 (HB.out.not_row dc HO.out);have hbw:Below B w w1:=(Below.refl B w).grown hg1 hB (fun q hq=>(HO.out.lt q hq).1);have hb2:=hb1.set v';have ho2:=hown'.kept (grownBy_setCell' w1 p v') (.inr (hb1.not_row dc hown').symm);have HB2:=Hh hb2;have HO2:=Hh ho2;have HBW:=Hh (hbw.setCell (p:=p) hp v');have c1:=hb1.cell;have f1:=hb1.frozen;have hl1:=hb1.lt;obtain⟨g',cap',rfl⟩:=ownsRow_succ hown';clear hown' hg1 hb1 hbw hb2 ho2 HC HB HO;go_wp2_with fail
 go_end0
 exact⟨rfl,_,HB2.out,HO2.out,HBW.out⟩
def jY (bs:List UInt8):List ByteArray:=bs.map fun x=>aX (x.toNat:Int)
def vM (bs:List UInt8):ByteArray:=if bs=[] then ⟨#[]⟩ else ⟨#[68,69,70,66,32]⟩++uZ (jY bs)
theorem yZ (l:List ByteArray) (M:Nat) (h:∀ x∈l,x.size≤M):(Lib.join (l.map (·.data.toList)) [44]).length≤l.length*(M+1):=by
 cases l with
 | nil=>simp[Lib.join_nil]
 | cons x l =>
   have h1:x.data.toList.length≤M:=by have:=h x (Qq ..);rw[Xv];exact this
   have h2:=Ec M (l.map (·.data.toList)) fun y hy=>by
    obtain⟨z,hz,rfl⟩:=Yo.1 hy
    have:=h z (Qv _ hz)
    rw[Xv];exact this
   rw[Xt,Lib.join_cons,Qc,Qp,Zc];rw[Qs] at h2;omega
theorem Ff (bs:List UInt8):∀ x∈jY bs,x.size≤6:=fun x hx=>by
 obtain⟨y,_,rfl⟩:=Yo.1 hx;exact Bz y
theorem Dj (bs:List UInt8):(vM bs).size≤5+bs.length*7:=by
 unfold vM;split
 · show 0≤_;omega
 · have h:=yZ (jY bs) 6 (Ff bs);rw[Qm];have e:(uZ (jY bs)).size=(Lib.join ((jY bs).map (·.data.toList)) [44]).length:=by show (Lib.join _ _).toArray.size=_;simp
   rw[e]
   have:(jY bs).length=bs.length:=by simp[jY]
   rw[this] at h;show 5+_≤_
   omega
theorem Ja (bs:List UInt8) (v:Value) (w:World) (hT:Tabs w) (hv:Row w v bs.length (aT bs)) (hl:bs.length≤100000) :
 Calls prog 93 #[v] w fun e w'=>e=.returned (.string (vM bs))∧Below w w w':=by
 obtain⟨a,c,rfl,hcap,hh⟩:=hv.byt;by_cases hnil:bs=[]
 · subst hnil;clear hh hT hv;go_enter func93,ntmps93
   go_wp2_with fail
   go_ret;exact⟨rfl,Below.refl _ _⟩
 obtain⟨g,o,rfl,hg,hcs⟩:=hh hnil;have hz:((bs.length:Int) == 0)=false:=by
  have:=Yu.2 hnil
  simp;omega
 have HNT:=Hh (fun X (hb:Below w w X) (n:Int)=>fD n X (hT.below hb));have HCS:=Hh hcs;have HNIL:=Hh hnil;clear hh hT hv hcs hnil;go_enter func93,ntmps93
 go_wp2_with fail
 obtain⟨w1,hw1⟩:∃ w1,w.alloc (.cells #[zz] 177)=w1:=⟨_,rfl⟩;have hb1:Below w w w1:=by rw[←hw1];exact br.alloc lr _
 have hx1:Boxed w1 w 177 (.slice none 0 0):=by rw[←hw1];exact Boxed.new w _ _
 rw[hw1];have HX1:=Hh hx1;have HB1:=Hh hb1;clear hw1 hx1 hb1;go_loopw [13] (fun i wr=>∃ j:Nat,j≤bs.length∧i=.int .i64 j∧∃ v,Hid (Boxed wr w 177 v)∧Hid (wr.ownsRow w 9 1 v j (fH (jY (bs.take j))))∧Hid (Below w w wr)) (fun i _=>bs.length - (intOf i).toNat)
 case atStart=>exact⟨0,Qi _,rfl,_,HX1,Hh (Xa _ _ _ _),HB1⟩
 case round =>
  obtain⟨j,hj,rfl,v,HX,HO,HB⟩:=hrel;have hdl:(jY (bs.take j)).length=j:=by simp[jY];omega
  by_cases hlt:j<bs.length
  · obtain⟨x,hx⟩:∃ x,bs[j]? = some x:=⟨_,Qb hlt⟩;have m0:=(HB.out.cell (p:=⟨g,o+j,none⟩) hg).trans (HCS.out j x hx);have hi0:(0:Int)≤(j:Int):=om
    have hi1:(j:Int)<(bs.length:Int):=om
    have hst:jY (bs.take (j+1))=jY (bs.take j)++[aX (x.toNat:Int)]:=by rw[Qo,hx];simp[jY]
    have HST:=Hh hst;have HDL:=Hh hdl;have hwx:wrap64 (x.toNat:Int)=(x.toNat:Int):=by have:=x.toNat_lt;unfold wrap64;omega
    clear hx hst hdl;go_wp2_with fail
    refine (HNT.out _ HB.out _).mono ?_;rintro e w3 ⟨rfl,hb3⟩;obtain⟨av,cv,rfl⟩:=aI HO.out;have hal:Below w3 w3 (w3.alloc (.cells #[.string (aX (x.toNat:Int))] 9)):=br.alloc lr _;have hb4:=hb3.trans (hal.mono hb3.size);have hx4:=aB HX.out hb4 HX.out.lt;have ho4:=bK HO.out hb4;have hw4:=HB.out.trans (hb4.mono HB.out.size);have HX4:=Hh (show Boxed (w3.alloc (.cells #[.string (aX (x.toNat:Int))] 9)) w.heap.size 177 (.slice av j cv) from hx4);have HO4:=Hh ho4;have HW4:=Hh hw4
    clear hal hb4 hx4 ho4 hw4 hb3 HX HO HB m0;go_wp2_with fail
    refine (aPm w w.heap.size w3 (jY (bs.take j)) (.slice av j cv) (aX (x.toNat:Int)) _ HX4.out (by rw[HDL.out];exact HO4.out) (aC (aF _ _) 0) HW4.out.size lr (by rw[HDL.out];omega)).mono ?_;rintro e w5 ⟨rfl,v5,hx5,ho5,hb5⟩;have HX5:=Hh hx5;have HB5:=Hh (HW4.out.trans hb5);rw[HDL.out] at ho5;have HO5:=Hh ho5;clear hx5 ho5 hb5;go_wp2_with fail
    go_roundw
    case rel=>exact⟨j+1,om,by go_num,v5,HX5,Hh (by rw[HST.out,qA];exact HO5.out),HB5⟩
    case measure=>simp[intOf];omega
  · obtain rfl:j=bs.length:=om
    rw[Qy] at HO hdl;have HJ:=Hh (yZ (jY bs) 6 (Ff bs));have c0:=HX.out.cell;have hlp:=HX.out.lt;have hds:vM bs=⟨#[68,69,70,66,32]⟩++uZ (jY bs):=by unfold vM;rw[if_neg HNIL.out]
    obtain⟨av,cv,rfl⟩:=aI HO.out;have HDS:=Hh hds;have HDL:=Hh hdl;have hjs:(uZ (jY bs)).size≤700000:=by
     have h1:=HJ.out;have e:(uZ (jY bs)).size=(Lib.join ((jY bs).map (·.data.toList)) [44]).length:=by show (Lib.join _ _).toArray.size=_;simp
     rw[hdl] at h1;omega
    clear hds hdl;go_wp2_with fail
    refine (Hn (jY bs) (.slice av bs.length cv) _ (by rw[HDL.out];exact Row.of_owns HO.out) (by rw[HDL.out];omega) (by have h1:=HJ.out;have h2:=HDL.out;rw[h2] at h1;omega)).mono ?_;rintro e w4 ⟨rfl,hb4⟩;have HB4:=Hh (HB.out.trans (hb4.mono HB.out.size));clear hb4;go_wp2_with fail
    go_ret;exact⟨by rw[HDS.out];rfl,HB4.out⟩
end Go.Proofs.YtoigglljnklhlaaGreatDoor
