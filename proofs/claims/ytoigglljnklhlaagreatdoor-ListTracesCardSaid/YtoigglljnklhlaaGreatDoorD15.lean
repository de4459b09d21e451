/- Joined. -/
import Derived.Test.YtoigglljnklhlaaGreatDoorD13
import Derived.Test.YtoigglljnklhlaaGreatDoorD14
import Derived.Deep.RegionHeld3
import Derived.Lib.IndexAny
set_option maxHeartbeats 8000000
set_option maxRecDepth 100000
namespace Go.Proofs.YtoigglljnklhlaaGreatDoor
section
open Go.RowKit Go.Sort
abbrev eU (m:List UInt8) (v:Value):Value:=.agg #[m,v]
end
section
open Go.RowKit Go.Sort
open Go.Proofs.Tryz
theorem uM (m1 m2:List UInt8) (v1 v2:Value) (l1 l2:List Op3) (w:World) (h1:Row w v1 l1.length (opc l1)) (h2:Row w v2 l2.length (opc l2)) (hl1:l1.length≤1000000) (hl2:l2.length≤1000000) :
 Calls prog 241 #[eU m1 v1,eU m2 v2] w fun e w'=>e=.returned (.bool (decide (m1=m2∧l1=l2)))∧Below w w w':=by
 obtain⟨b,hb⟩:∃ b,(m1 == m2)=b:=⟨_,rfl⟩;have H1:=Hh h1;have H2:=Hh h2;obtain⟨a1,c1,rfl,_,_⟩:=h1;obtain⟨a2,c2,rfl,_,_⟩:=h2;cases b with
 | false =>
   have hr:decide (m1=m2∧l1=l2)=false:=Qg (fun h=>by rw[h.1] at hb;simp at hb);rw[hr];clear hr;go_enter func241,ntmps241
   go_wp2_with fail
   go_ret;exact⟨rfl,bl⟩
 | true =>
   have hr:decide (m1=m2∧l1=l2)=decide (l1=l2):=by
    have:m1=m2:=by simpa using hb
    simp[this]
   rw[hr];clear hr;go_enter func241,ntmps241
   go_wp2_with fail
   refine (qG _ _ l1 l2 _ (H1.out.below (bl)) (H2.out.below (bl)) hl1 hl2).mono ?_;rintro e w1 ⟨rfl,hb1⟩;obtain⟨p1,rfl⟩:=aO hb1;clear hb1;go_wp2_with fail
   go_ret;exact⟨rfl,bl⟩
theorem Dt (o:Op3) (w:World):Calls prog 236 #[.agg #[o.1,o.2.1,o.2.2]] w fun e w'=>e=.returned (.bool (!bP o.1 o.2.1 o.2.2))∧Below w w w':=by
 obtain⟨k,r,n⟩:=o;go_enter func236,ntmps236
 go_wp2_with fail
 refine (pA k r n _).mono ?_;rintro e w1 ⟨rfl,hb1⟩;obtain⟨p1,rfl⟩:=aO hb1;clear hb1;go_wp2_with fail
 go_ret;exact⟨rfl,bl⟩
def bW:List Op3→List Nat
 | []=>[0,1,2]
 | o::l=>if eF o.1 o.2.1 0=5 then [3,5] else if eF o.1 o.2.1 0=6 then [4,6] else bW l
def pgc (l:List Nat):List Value:=l.map fun p:Nat=>Value.int .i64 (p:Int)
theorem yH {l:List Op3} {j:Nat} {o:Op3} (h:l[j]? = some o) (h5:eF o.1 o.2.1 0≠5) (h6:eF o.1 o.2.1 0≠6):bW (l.drop j)=bW (l.drop (j+1)):=by
 obtain⟨hj,he⟩:=Qd.1 h;rw[Yj hj,he];show (if _ then _ else _)=_
 rw[if_neg h5,if_neg h6]
theorem yI {l:List Op3} {j:Nat} {o:Op3} (h:l[j]? = some o) (h5:eF o.1 o.2.1 0=5):bW (l.drop j)=[3,5]:=by
 obtain⟨hj,he⟩:=Qd.1 h;rw[Yj hj,he];exact if_pos h5
theorem Bq {l:List Op3} {j:Nat} {o:Op3} (h:l[j]? = some o) (h6:eF o.1 o.2.1 0=6):bW (l.drop j)=[4,6]:=by
 obtain⟨hj,he⟩:=Qd.1 h;rw[Yj hj,he];show (if _ then _ else _)=_
 rw[if_neg (by rw[h6];decide),if_pos h6]
theorem mD (w:World) (xs:List Value) (T:TypeId):Row (w.alloc (.cells xs.toArray T)) (.slice w xs.length xs.length) xs.length xs:=by
 refine⟨_,_,rfl,Qk _,fun _=>⟨w,0,rfl,by rw[Qa];omega,fun j hj=>?_⟩⟩
 rw[Xb,aC (aF w _)];simp
theorem Gp (m:List UInt8) (v:Value) (l:List Op3) (w:World) (hr:Row w v l.length (opc l)) (hl:l.length≤1000) :
 Calls prog 240 #[eU m v] w fun e w'=>∃ a c,e=.returned (.slice a (bW l).length c)∧Row w' (.slice a (bW l).length c) (bW l).length (pgc (bW l))∧Below w w w':=by
 have HR:=Hh hr;obtain⟨a,c,rfl,_,_⟩:=hr;go_enter func240,ntmps240
 go_wp2_with fail
 go_loopw [8] (fun i wr=>∃ j:Nat,j≤l.length∧i=.int .i64 j∧Below w w wr∧Hid (bW l=bW (l.drop j))) (fun i _=>l.length - (intOf i).toNat)
 case atStart=>exact⟨0,Qi _,rfl,bl,Hh rfl⟩
 case round =>
  obtain⟨j,hj,rfl,hbel,HP⟩:=hrel;have HB:=Hh hbel;clear hbel;by_cases hlt:j<l.length
  · obtain⟨o,ho⟩:∃ o,l[j]? = some o:=⟨_,Qb hlt⟩;have hrw:=(HR.out.below HB.out).op;obtain⟨a',c',hv,_,hc⟩:=hrw;cases hv
    obtain⟨g,off,rfl,hg,hc⟩:=hc (by rintro rfl;exact absurd hlt (Qw _))
    obtain⟨k0,k1,k2⟩:=hc j o ho;clear hc;have hi0:(0:Int)≤(j:Int):=om
    have hi1:(j:Int)<(l.length:Int):=om
    have hidx:=fun W=>Hu o.1 o.2.1 0 W;have hs5:=yI ho;have hs6:=Bq ho;have hst:=yH ho;generalize eF o.1 o.2.1 0=x at *;have HI:=Hh hidx;clear hidx;have HO:=Hh ho;clear ho;rcases Decidable.em (x=5) with rfl|h5
    · have hp:=HP.out.trans (hs5 rfl);have HP2:=Hh hp;clear hp hs5 hs6 hst;go_wp2_with fail
      refine (HI.out _).mono ?_;rintro e w2 ⟨rfl,hb2⟩;have hle:=HB.out.size;have HB3:=Hh (HB.out.trans (aK hb2 |>.mono hle));clear hb2;go_wp2_with fail
      go_ret;refine⟨some ⟨w2,0,none⟩,2,?_,?_,HB3.out.alloc HB3.out.size _⟩
      · rw[HP2.out];rfl
      · rw[HP2.out];exact mD w2 (pgc [3,5]) _
    · rcases Decidable.em (x=6) with rfl|h6
      · have hp:=HP.out.trans (hs6 rfl);have HP2:=Hh hp;clear hp hs5 hs6 hst;go_wp2_with fail
        refine (HI.out _).mono ?_;rintro e w2 ⟨rfl,hb2⟩;have hle:=HB.out.size;have HB3:=Hh (HB.out.trans (aK hb2 |>.mono hle));clear hb2;go_wp2_with fail
        go_ret;refine⟨some ⟨w2,0,none⟩,2,?_,?_,HB3.out.alloc HB3.out.size _⟩
        · rw[HP2.out];rfl
        · rw[HP2.out];exact mD w2 (pgc [4,6]) _
      · have hp:=HP.out.trans (hst h5 h6);have HP2:=Hh hp;clear hp hs5 hs6 hst;have e5:(x == 5)=false:=Xd.2 h5;have e6:(x == 6)=false:=Xd.2 h6;go_wp2_with fail
        refine (HI.out _).mono ?_;rintro e w2 ⟨rfl,hb2⟩;have hle:=HB.out.size;have HB3:=Hh (HB.out.trans (aK hb2 |>.mono hle));clear hb2;go_wp2_with fail
        go_roundw
        case rel=>exact⟨j+1,om,by go_num,HB3.out,HP2⟩
        case measure=>simp[intOf];omega
  · obtain rfl:j=l.length:=om
    have hp:=HP.out;rw[List.drop_length] at hp;have HP2:=Hh hp;clear hp;go_wp2_with fail
    go_ret;refine⟨some ⟨wr,0,none⟩,3,?_,?_,HB.out.alloc HB.out.size _⟩
    · rw[HP2.out];rfl
    · rw[HP2.out];exact mD wr (pgc [0,1,2]) _
def z3 (o:Op3):Op3:=(o.1,o.2.1,0)
theorem uP (m:List UInt8) (v:Value) (l:List Op3) (w:World) (hr:Row w v l.length (opc l)) (hl:l.length≤1000) (hm:m.length≤1000) :
 Calls prog 242 #[eU m v] w fun e w'=>∃ v',e=.returned (eU m v')∧WRow w' w v' l.length (opc (l.map z3))∧Below w w w':=by
 have hms:(⟨m.toArray⟩:ByteArray).size≤maxLen:=by show m.toArray.size≤maxLen;rw[Qx];unfold maxLen;omega
 have HR:=Hh hr;have HM:=Hh hms;clear hms;obtain⟨a,c,rfl,_,_⟩:=hr;go_enter func242,ntmps242
 go_wp2_with fail
 obtain⟨W,hW⟩:∃ W,((w.alloc (.cells #[m,.slice a l.length c] 53)).alloc (.cells #[(),zz] 53))=W:=⟨_,rfl⟩;have hbW:Below w w W:=by rw[←hW];exact (br.alloc lr _).alloc sm _
 have hsz:W.heap.size=w.heap.size+1+1:=by rw[←hW];simp
 have h0:W.heap[w.heap.size]? = some (.cells #[m,.slice a l.length c] 53 (0,0)):=by rw[←hW];exact aE (aF _ _)
 have h1:W.heap[w.heap.size+1]? = some (.cells #[(),zz] 53 (0,0)):=by rw[←hW];have:=aF (w.alloc (.cells #[m,.slice a l.length c] 53)) (.cells #[(),zz] 53);rwa [Qa] at this
 rw[hW];clear hW;refine (lF ⟨m.toArray⟩ _ l _ HM.out (HR.out.below hbW) om).mono ?_;rintro e W1 ⟨v1,rfl,hown,hb1⟩;obtain⟨a1,c1,rfl⟩:=aI hown;have hsz1:W.heap.size≤W1.heap.size:=hb1.size;have hl0:w.heap.size<W1.heap.size:=om
 have hl1:w.heap.size+1<W1.heap.size:=om
 have h01:=aB h0 hb1 om;have h11:=aB h1 hb1 om;obtain⟨t0,t1,s0,s1⟩:=aL h01;obtain⟨r0,r1,q0,q1⟩:=aL h11;have hbW1:Below w w W1:=hbW.trans (hb1.mono hbW.size);have HROW:=Hh ((WRow.of_owns hown).mono (b':=w.heap.size+1+1) om);have HB1:=Hh hbW1;have H11:=Hh h11;have hgo:l≠[]→∃ g o,a1=some ⟨g,o,none⟩∧w.heap.size+1+1≤g∧g<W1.heap.size:=by
  intro hne;obtain⟨_,_,he,_,hh⟩:=(HROW.out).op;cases he
  obtain⟨g,o,e,h2,h3,_⟩:=hh hne;exact⟨g,o,e,h2,h3⟩
 have HGO:=Hh hgo;clear hown hb1 h01 h11 hbW1 hbW h0 h1 hsz hsz1 hgo;go_wp2_with fail
 go_loopw [16] (fun i wr=>∃ j:Nat,j≤l.length∧i=.int .i64 j∧Below w w wr∧W1.heap.size<wr.heap.size∧Hid (WRow wr (w.heap.size+1+1) (.slice a1 l.length c1) l.length (opc (lkL z3 l j))∧wr.heap[W1.heap.size]? = some (.cells #[m,.slice a1 l.length c1] 53 (0,0))∧wr.heap[w.heap.size+1]? = some (.cells #[(),zz] 53 (0,0)))) (fun i _=>l.length - (intOf i).toNat)
 case atStart=>exact⟨0,Qi _,rfl,HB1.out.alloc om _,by simp,Hh ⟨HROW.out.below (br.alloc lr _),aF _ _,aE H11.out⟩⟩
 case round =>
  obtain⟨j,hj,rfl,hbel,hszr,HV⟩:=hrel;have HB:=Hh hbel;clear hbel;obtain⟨z0,z1,y0,y1⟩:=aL HV.out.2.1;obtain⟨r0,r1,q0,q1⟩:=aL HV.out.2.2;by_cases hlt:j<l.length
  · obtain⟨g,o,rfl,hg1,hg2⟩:=HGO.out (by rintro rfl;exact absurd hlt (Qw _))
    obtain⟨x,hx⟩:∃ x,l[j]? = some x:=⟨_,Qb hlt⟩;have hlk:=nF (f:=z3) hx;have hset:=kG (f:=z3) hx (y:=(x.1,x.2.1,0)) rfl;have hrow:=HV.out.1;have hlen:=bY z3 l j;rw[←hlen] at hrow;have hsetN:=WRow.setN (m:=0) hrow hlk;rw[hset,hlen] at hsetN;obtain⟨_,_,he,_,hh⟩:=hrow.op;cases he
    obtain⟨g',o',he,_,hg3,hh⟩:=hh (by intro e;rw[e] at hlen;simp at hlen;omega);cases he
    obtain⟨k0,k1,k2,f0,f1,f2⟩:=hh j x hlk;have hi0:(0:Int)≤(j:Int):=om
    have hi1:(j:Int)<(l.length:Int):=om
    have HS:=Hh hsetN;have HX:=Hh hx;clear hsetN hrow hh hset hlk hx HROW;go_wp2_with fail
    go_roundw
    case rel =>
     exact⟨j+1,om,by go_num,HB.out.setCell (p:=⟨g,o+j*3+2,none⟩) (by show w.heap.size≤g;omega) _,by rw[setCell_size];exact hszr,Hh ⟨HS.out,aD HV.out.2.1 om,aD HV.out.2.2 om⟩⟩
    case measure=>simp[intOf];omega
  · obtain rfl:j=l.length:=om
    have hrow:=HV.out.1;rw[show lkL z3 l l.length=l.map z3 by unfold lkL;simp] at hrow
    have HROW2:=Hh hrow;clear hrow;have hlw:w.heap.size+1<wr.heap.size:=om
    go_wp2_with fail
    refine bodyPost_ret (v:=.agg #[m,.slice a1 l.length c1]) (by simp[results,results242,go_sem,r0,r1]) rfl ⟨_,rfl,?_,(HB.out.setCell (p:=⟨w+1,0,none⟩) (by show w.heap.size≤w.heap.size+1;omega) _).setCell (p:=⟨w+1,1,none⟩) (by show w.heap.size≤w.heap.size+1;omega) _⟩;exact ((HROW2.out.kb ((Kb.refl (w.heap.size+1) wr).setCell 0 _) om).kb ((Kb.refl (w.heap.size+1) _).setCell 1 _) om).mono om
theorem Jo {a b:List Op3}:decide (a.map z3=b.map z3)=decide (kB a=kB b):=by
 rw[decide_eq_decide];have hinj:∀ (x y:List Op3),x.map z3=y.map z3↔x.map (fun o=>(o.1,o.2.1))=y.map (fun o=>(o.1,o.2.1)):=by
  intro x;induction x with
  | nil=>intro y;cases y<;>simp
  | cons p x ih =>
    intro y;cases y with
    | nil=>simp
    | cons q y=>simp[z3,ih y,Prod.ext_iff]
 exact hinj a b
theorem mX (E:Ent) (ve:Value) (m:List UInt8) (v:Value) (l:List Op3) (w:World) (he:Row w ve E.args.length (opc E.args)) (hr:Row w v l.length (opc l)) (hel:E.args.length≤1000) (hem:E.mn.length≤1000) (hl:l.length≤1000) (hm:m.length≤1000) :
 Calls prog 202 #[cP E ve,eU m v] w fun e w'=>e=.returned (.bool (cT E (m,l)))∧Below w w w':=by
 obtain⟨page,op,mn,args,ex,al⟩:=E;dsimp only at he hel hem;have hR:cT ⟨page,op,mn,args,ex,al⟩ (m,l)=decide (mn=m∧args.map z3=l.map z3):=by
  unfold cT;dsimp only;rw[←Jo];by_cases h:mn=m<;>simp[h]
 rw[hR];clear hR;have hA:=fun X (hb:Below w w X)=>uP mn ve args X (he.below hb) hel hem;have hB:=fun X (hb:Below w w X)=>uP m v l X (hr.below hb) hl hm;have hS:=fun X v1 v2 (h1:Row X v1 args.length (opc (args.map z3))) (h2:Row X v2 l.length (opc (l.map z3)))=>uM mn m v1 v2 (args.map z3) (l.map z3) X (by rw[Qs];exact h1) (by rw[Qs];exact h2) (by rw[Qs];omega) (by rw[Qs];omega);obtain⟨R,hR⟩:∃ R,decide (mn=m∧args.map z3=l.map z3)=R:=⟨_,rfl⟩;rw[hR] at hS ⊢;clear hR;have HA:=Hh hA;clear hA;have HB:=Hh hB;clear hB;have HS:=Hh hS;clear hS;obtain⟨a,c,rfl,_,_⟩:=hr;obtain⟨ae,ce,rfl,_,_⟩:=he;show Calls prog 202 #[.agg #[page,.int .u8 op,mn,.slice ae args.length ce,ex,.bool al],.agg #[m,.slice a l.length c]] w _
 go_enter func202,ntmps202
 go_wp2_with fail
 obtain⟨W,hW⟩:∃ W,((w.alloc (.cells #[page,.int .u8 op,mn,.slice ae args.length ce,ex,.bool al] 211)).alloc (.cells #[m,.slice a l.length c] 53))=W:=⟨_,rfl⟩;have hbW:Below w w W:=by rw[←hW];exact (br.alloc lr _).alloc sm _
 have hsz:W.heap.size=w.heap.size+1+1:=by rw[←hW];simp
 have h0:W.heap[w.heap.size]? = some (.cells #[page,.int .u8 op,mn,.slice ae args.length ce,ex,.bool al] 211 (0,0)):=by rw[←hW];exact aE (aF _ _)
 have h1:W.heap[w.heap.size+1]? = some (.cells #[m,.slice a l.length c] 53 (0,0)):=by rw[←hW];have:=aF (w.alloc (.cells #[page,.int .u8 op,mn,.slice ae args.length ce,ex,.bool al] 211)) (.cells #[m,.slice a l.length c] 53);rwa [Qa] at this
 rw[hW];clear hW;obtain⟨⟨_,_,t2,t3,_,_⟩,_⟩:=aN h0;obtain⟨r0,r1,_,_⟩:=aL h1;have hl0:w.heap.size<W.heap.size:=om
 have hl1:w.heap.size+1<W.heap.size:=om
 have HSZ:=Hh hsz;clear hsz h0 h1;have hK:∀ X,Below W W X→X.cell? ⟨w,2,none⟩=some (.string ⟨mn.toArray⟩)∧X.cell? ⟨w,3,none⟩=some (.slice ae args.length ce)∧X.cell? ⟨w+1,0,none⟩=some (.string ⟨m.toArray⟩)∧X.cell? ⟨w+1,1,none⟩=some (.slice a l.length c):=fun X hb =>
  ⟨(hb.cell (p:=⟨w,2,none⟩) hl0).trans t2,(hb.cell (p:=⟨w,3,none⟩) hl0).trans t3,(hb.cell (p:=⟨w+1,0,none⟩) hl1).trans r0,(hb.cell (p:=⟨w+1,1,none⟩) hl1).trans r1⟩
 have HBW:=Hh hbW;clear hbW;have hd:Below W W W.drew:=bl;have hd2:Below w w W.drew:=HBW.out.trans (hd.mono HBW.out.size);go_region_held3 (fun w'=>w'.cell? ⟨w,2,none⟩=some (.string ⟨mn.toArray⟩)∧w'.cell? ⟨w,3,none⟩=some (.slice ae args.length ce)∧w'.cell? ⟨w+1,0,none⟩=some (.string ⟨m.toArray⟩)∧w'.cell? ⟨w+1,1,none⟩=some (.slice a l.length c)) (first|exact⟨t2,t3,r0,r1⟩|exact K4|exact K5|exact K6) (first|((with_reducible refine (HA.out _ hd2).mono ?_);rintro e w4 ⟨v4,rfl,ho4,hb4⟩;have hbw4:Below W W w4:=hd.trans hb4;have K4:=hK w4 hbw4)|((with_reducible refine (HB.out _ (HBW.out.trans (hbw4.mono HBW.out.size))).mono ?_);rintro e w5 ⟨v5,rfl,ho5,hb5⟩;have hbw5:Below W W w5:=hbw4.trans (hb5.mono hbw4.size);have K5:=hK w5 hbw5)|((with_reducible refine (HS.out _ _ _ (ho4.below hb5).row ho5.row).mono ?_);rintro e w6 ⟨rfl,hb6⟩;have hbw6:Below W W w6:=hbw5.trans (hb6.mono hbw5.size);have K6:=hK w6 hbw6))
 have HB6:=Hh (HBW.out.trans (hbw6.mono HBW.out.size));clear hd hd2 hbw4 hbw5 hbw6 hb4 hb5 hb6 ho4 ho5 K4 K5 K6 hK;go_wp2_with fail
 go_ret;exact⟨rfl,HB6.out⟩
theorem sA (p:Nat→Bool):∀ (n k:Nat),k<n→p k=true→(∀ j,k<j→j<n→p j=false)→(List.range n).reverse.find? p=some k
 | 0,k,h,_,_=>absurd h (Qw _)
 | n+1,k,h,hp,hno=>by
   rw[Yw,List.reverse_append];show (n::(List.range n).reverse).find? p=_
   rw[List.find?_cons];rcases Zb k n with hk|hk
   · rw[hno n hk om];exact sA p n k hk hp fun j h1 h2=>hno j h1 om
   · obtain rfl:k=n:=om
     rw[hp]
theorem Bk (p:Nat→Bool) (n:Nat) (hno:∀ j,j<n→p j=false):(List.range n).reverse.find? p=none:=by
 rw[List.find?_eq_none];intro x hx;rw[hno x (by simpa using hx)];decide
def dK (ks:List Int) (l:List Op3):Int:=match kR ks l with|some k=>(k:Int)|none=>-1
theorem zX (ks:List Int) (v:Value) (x:Int) (w:World) (hr:Row w v ks.length (ks.map fun k=>Value.int .i64 k)) (hne:ks≠[]) (hl:ks.length≤1000) :
 Calls prog 150 #[v,x] w fun e w'=>e=.returned (.bool (decide (x∈ks)))∧w'=w:=by
 obtain⟨a,cap,rfl,_,hc⟩:=hr;obtain⟨g,o,rfl,hg,hcc⟩:=hc (by simpa using hne);refine (Tryz.slices_Contains_int g o ks.length cap ks x w lr om (fun j hj=>(hcc j (by rw[Qs];exact hj)).trans ?_)).mono ?_
 · simp[List.getD,Qb hj]
 · rintro e w' ⟨he,rfl⟩;refine⟨?_,rfl⟩;rw[he,Xj lr,List.contains_eq_mem]
theorem sM (m:List UInt8) (v vk:Value) (l:List Op3) (ks:List Int) (w:World) (hr:Row w v l.length (opc l)) (hl:l.length≤1000) (hk:Row w vk ks.length (ks.map fun k=>Value.int .i64 k)) (hne:ks≠[]) (hkl:ks.length≤1000) :
 Calls prog 253 #[eU m v,vk] w fun e w'=>e=.returned (.int .i64 (dK ks l))∧Below w w w':=by
 have HR:=Hh hr;have hco:=fun X x (hb:Below w w X)=>zX ks vk x X (hk.below hb) hne hkl;have HC:=Hh hco;clear hco hk;obtain⟨a,c,rfl,_,_⟩:=hr;have ws:IntKind.i64.wrap ((l.length:Int) - 1)=(l.length:Int) - 1:=IntWalk.i64_in _ om;obtain⟨R,hR⟩:∃ R,dK ks l=R:=⟨_,rfl⟩;rw[hR];have HRR:=Hh hR;clear hR;go_enter func253,ntmps253
 go_wp2_with fail
 go_loopw [5] (fun i wr=>∃ j:Nat,j≤l.length∧i=.int .i64 ((j:Int) - 1)∧Below w w wr∧wr.cell? ⟨w,1,none⟩=some (.slice a l.length c)∧w.heap.size<wr.heap.size∧Hid (∀ k,j≤k→k<l.length→decide ((l.getD k (0,0,0)).1∈ks)=false)) (fun i _=>(intOf i+1).toNat)
 case atStart=>exact⟨l.length,Qk _,rfl,bl,by simp[go_sem],by simp,Hh fun k h1 h2=>om⟩
 case round =>
  obtain⟨j,hj,rfl,hbel,hbx,hlw,HN⟩:=hrel;have HB:=Hh hbel;clear hbel;by_cases hlt:0<j
  · obtain⟨q,rfl⟩:∃ q,j=q+1:=⟨j - 1,om⟩
    have eq1:((q+1:Nat):Int) - 1=(q:Int):=om
    rw[eq1];obtain⟨x,hx⟩:∃ x,l[q]? = some x:=⟨_,Qb om⟩;have hrw:=(HR.out.below HB.out).op;obtain⟨a',c',hv,_,hc⟩:=hrw;cases hv
    obtain⟨g,off,rfl,hg,hc⟩:=hc (by rintro rfl;exact absurd hj sm)
    obtain⟨k0,k1,k2⟩:=hc q x hx;have hi0:(0:Int)≤(q:Int):=om
    have hi1:(q:Int)<(l.length:Int):=om
    have hd:(l.getD q (0,0,0)).1=x.1:=by simp[List.getD,hx]
    have hcall:=HC.out wr x.1 HB.out;have ws2:IntKind.i64.wrap ((q:Int) - 1)=(q:Int) - 1:=IntWalk.i64_in _ om;clear hc;cases hm:decide (x.1∈ks) with
    | true =>
      have hres:dK ks l=(q:Int):=by
       unfold dK kR;rw[sA _ l.length q om (by rw[hd];exact hm) (fun k h1 h2=>HN.out k om h2)]
      obtain rfl:R=(q:Int):=HRR.out.symm.trans hres;rw[hm] at hcall;have HCA:=Hh hcall;clear hcall hm hres hd;go_wp2_with fail
      refine HCA.out.mono ?_;rintro e w2 ⟨rfl,rfl⟩;go_wp2_with fail
      go_ret;exact⟨rfl,HB.out⟩
    | false =>
      have hno:∀ k,q≤k→k<l.length→decide ((l.getD k (0,0,0)).1∈ks)=false:=fun k h1 h2=>by
       rcases Nat.eq_or_lt_of_le h1 with rfl|h3
       · rw[hd];exact hm
       · exact HN.out k h3 h2
      have HNO:=Hh hno;clear hno;rw[hm] at hcall;have HCA:=Hh hcall;clear hcall hm hd;go_wp2_with fail
      refine HCA.out.mono ?_;rintro e w2 ⟨rfl,rfl⟩;go_wp2_with fail
      go_roundw
      case rel=>exact⟨q,om,rfl,HB.out,hbx,hlw,HNO⟩
      case measure=>simp[intOf]
  · obtain rfl:j=0:=om
    have hres:dK ks l=-1:=by
     unfold dK kR;rw[Bk _ l.length (fun k h2=>HN.out k om h2)]
    obtain rfl:R=-1:=HRR.out.symm.trans hres;clear hres;go_wp2_with fail
    go_ret;exact⟨rfl,HB.out⟩
theorem wP (lo hi:Int) (w:World):Calls prog 254 #[lo,hi] w fun e w'=>e=.returned (.func (.func 287) #[] #[.pointer w,.pointer (w+1:Nat)])∧w'=(w.alloc (.cells #[lo] 3)).alloc (.cells #[hi] 3):=by
 go_enter func254,ntmps254
 go_wp2_with fail
 go_ret;exact ⟨rfl,rfl⟩
theorem wS (n lo hi:Int) (b1 b2:Nat) (w:World) (h1:w.cell? b1=some (.int .i64 lo)) (h2:w.cell? b2=some (.int .i64 hi)) :
 Calls prog 287 #[n,.pointer b1,.pointer b2] w fun e w'=>e=.returned (.bool (decide (lo≤n) && decide (n≤hi)))∧Below w w w':=by
 go_enter func287,ntmps287
 go_wp2_with fail
 refine (jS lo hi n _ _ ?hc).mono ?_
 case hc=>simp [go_sem]
 rintro e w2 ⟨rfl,rfl⟩;go_wp2_with fail
 go_ret;exact ⟨rfl,bl⟩
def InF (w:World) (base:Nat) (lo hi:Int) (f:Value):Prop:=∃ b1 b2,f=.func (.func 287) #[] #[.pointer (some ⟨b1,0,none⟩),.pointer (some ⟨b2,0,none⟩)]∧base≤b1∧base≤b2∧b1<w.heap.size∧b2<w.heap.size∧w.cell? ⟨b1,0,none⟩=some (.int .i64 lo)∧w.cell? ⟨b2,0,none⟩=some (.int .i64 hi)
theorem gI (l:List UInt8) (c:UInt8) (w:World):Calls prog 255 #[l,.string ⟨#[c]⟩] w fun e w'=>e=.returned (.bool (decide (c∈l)))∧w'=w:=by
 refine (Tryz.strings_Contains_one ⟨l.toArray⟩ c w).mono ?_;rintro e w' ⟨he,hw⟩;refine ⟨?_,hw⟩;rw [he];rw [←Lib.contains_iff_indexByte,List.contains_eq_mem]
theorem mS (E:Ent) (ve:Value) (w:World) (he:Row w ve E.args.length (opc E.args)) (hel:E.args.length≤1000) :
 Calls prog 232 #[cP E ve] w fun e w'=>∃ f,e=.returned (.tuple #[.agg #[.int .i64 (dK [5] E.args),f],.bool (decide (100∈E.extra) && decide (0≤dK [5] E.args))])∧InF w' w.heap.size (-128) 127 f∧Below w.heap.size w w':=by
 obtain ⟨page,op,mn,args,ex,al⟩:=E;dsimp only at he hel ⊢;have HR:=Hh he;obtain ⟨ae,ce,rfl,_,_⟩:=he;show Calls prog 232 #[.agg #[.int .i64 page,.int .u8 op,.string ⟨mn.toArray⟩,.slice ae args.length ce,.string ⟨ex.toArray⟩,.bool al]] w _
 obtain ⟨R,hR⟩:∃ R,dK [5] args=R:=⟨_,rfl⟩;have hlast:=fun X vk (hb:Below w.heap.size w X) (hk:Row X vk 1 [Value.int .i64 5])=>sM mn (.slice ae args.length ce) vk args [5] X (HR.out.below hb) hel hk dc dc;rw [hR] at hlast ⊢;have HL:=Hh hlast; clear hlast hR;obtain ⟨D,hD⟩:∃ D,decide ((100:UInt8)∈ex)=D:=⟨_,rfl⟩;have hcon:=fun X=>gI ex 100 X;rw [hD] at hcon ⊢;have HCON:=Hh hcon; clear hcon hD;go_enter func232,ntmps232
 go_wp2_with fail
 obtain ⟨W,hW⟩:∃ W,((w.alloc (.cells #[.int .i64 page,.int .u8 op,.string ⟨mn.toArray⟩,.slice ae args.length ce,.string ⟨ex.toArray⟩,.bool al] 211)).alloc (.cells #[.int .i64 0,.nilFunc] 291))=W:=⟨_,rfl⟩;have hbW:Below w.heap.size w W:=by rw [←hW]; exact (br.alloc lr _).alloc sm _
 have hsz:W.heap.size=w.heap.size+1+1:=by rw [←hW]; simp
 have h0:W.heap[w.heap.size]? = some (.cells #[.int .i64 page,.int .u8 op,.string ⟨mn.toArray⟩,.slice ae args.length ce,.string ⟨ex.toArray⟩,.bool al] 211 (0,0)):=by rw [←hW]; exact aE (aF _ _)
 have h1:W.heap[w.heap.size+1]? = some (.cells #[.int .i64 0,.nilFunc] 291 (0,0)):=by rw [←hW]; have:=aF (w.alloc (.cells #[.int .i64 page,.int .u8 op,.string ⟨mn.toArray⟩,.slice ae args.length ce,.string ⟨ex.toArray⟩,.bool al] 211)) (.cells #[.int .i64 0,.nilFunc] 291); rwa [Qa] at this
 rw [hW];clear hW;have hb5:Below W.heap.size W (W.alloc (.cells #[.int .i64 5] 3)):=br.alloc lr _;refine (HL.out _ _ (hbW.trans (hb5.mono hbW.size)) (by have:=mD W [Value.int .i64 5] 3; rw [hsz] at this; exact this)).mono ?_;rintro e w3 ⟨rfl,hb3⟩;have hb3':Below W.heap.size W w3:=hb5.trans (hb3.mono hb5.size);have hlt:w.heap.size+1+1≤w3.heap.size:=by have:=hb3'.size; omega
 have h03:=aB h0 hb3' om;have h13:=aB h1 hb3' om;have HB3:=Hh (hbW.trans (hb3'.mono hbW.size));clear hb5 hb3 hb3' h0 h1 hbW hsz;go_wp2_with fail
 refine (wP (-128) 127 _).mono ?_;rintro e w4 ⟨rfl,rfl⟩;go_wp2_with fail
 obtain ⟨V,hV⟩:∃ V,(((w3.alloc (.cells #[.int .i64 (-128)] 3)).alloc (.cells #[.int .i64 127] 3)).alloc (.cells #[.int .i64 R,.func (.func 287) #[] #[.pointer (some ⟨w3.heap.size,0,none⟩),.pointer (some ⟨w3.heap.size+1,0,none⟩)]] 291))=V:=⟨_,rfl⟩;have hbV:Below w3.heap.size w3 V:=by rw [←hV]; exact ((br.alloc lr _).alloc sm _).alloc (by simp; omega) _
 have hszV:V.heap.size=w3.heap.size+1+1+1:=by rw [←hV]; simp
 have v4:V.heap[w3.heap.size+1+1]? = some (.cells #[.int .i64 R,.func (.func 287) #[] #[.pointer (some ⟨w3.heap.size,0,none⟩),.pointer (some ⟨w3.heap.size+1,0,none⟩)]] 291 (0,0)):=by
  rw [←hV]; have:=aF ((w3.alloc (.cells #[.int .i64 (-128)] 3)).alloc (.cells #[.int .i64 127] 3)) (.cells #[.int .i64 R,.func (.func 287) #[] #[.pointer (some ⟨w3.heap.size,0,none⟩),.pointer (some ⟨w3.heap.size+1,0,none⟩)]] 291); rwa [Qa,Qa] at this
 have v1:V.heap[w3.heap.size]? = some (.cells #[.int .i64 (-128)] 3 (0,0)):=by rw [←hV]; exact aE (aE (aF _ _))
 have v2:V.heap[w3.heap.size+1]? = some (.cells #[.int .i64 127] 3 (0,0)):=by
  rw [←hV]; have:=aF (w3.alloc (.cells #[.int .i64 (-128)] 3)) (.cells #[.int .i64 127] 3); rw [Qa] at this; exact aE this
 have v0:=aB h03 hbV om;have v3:=aB h13 hbV om;rw [hV];clear hV h03 h13;obtain ⟨⟨_,_,_,_,t4,_⟩,_⟩:=aN v0;obtain ⟨r0,r1,q0,q1⟩:=aL v3;obtain ⟨s0,s1,_,_⟩:=aL v4;have hfin:∀ X,X=(V.setCell ⟨w.heap.size+1,0,none⟩ (.int .i64 R)).setCell ⟨w.heap.size+1,1,none⟩ (.func (.func 287) #[] #[.pointer (some ⟨w3.heap.size,0,none⟩),.pointer (some ⟨w3.heap.size+1,0,none⟩)])→InF X w.heap.size (-128) 127 (.func (.func 287) #[] #[.pointer (some ⟨w3.heap.size,0,none⟩),.pointer (some ⟨w3.heap.size+1,0,none⟩)])∧Below w.heap.size w X:=by
  intro X hX;rw [hX];have hbw:=HB3.out.trans (hbV.mono om);refine ⟨⟨w3.heap.size,w3.heap.size+1,rfl,om,om,by rw [setCell_size,setCell_size]; omega,by rw [setCell_size,setCell_size]; omega,?_,?_⟩,(hbw.setCell (p:=⟨w.heap.size+1,0,none⟩) (by show w.heap.size≤w.heap.size+1; omega) _).setCell (p:=⟨w.heap.size+1,1,none⟩) (by show w.heap.size≤w.heap.size+1; omega) _⟩
  · exact aC (aD (aD v1 om) om) 0
  · exact aC (aD (aD v2 om) om) 0
 have HFIN:=Hh hfin;have hl1:w.heap.size+1<V.heap.size:=om
 have hne:w3.heap.size+1+1≠w.heap.size+1:=om
 have hkeep:∀ x y,((V.setCell ⟨w.heap.size+1,0,none⟩ x).setCell ⟨w.heap.size+1,1,none⟩ y).cell? ⟨w3.heap.size+1+1,0,none⟩=some (.int .i64 R)∧((V.setCell ⟨w.heap.size+1,0,none⟩ x).setCell ⟨w.heap.size+1,1,none⟩ y).cell? ⟨w3.heap.size+1+1,1,none⟩=some (.func (.func 287) #[] #[.pointer (some ⟨w3.heap.size,0,none⟩),.pointer (some ⟨w3.heap.size+1,0,none⟩)])∧((V.setCell ⟨w.heap.size+1,0,none⟩ x).setCell ⟨w.heap.size+1,1,none⟩ y).cell? ⟨w.heap.size,4,none⟩=some (.string ⟨ex.toArray⟩):=fun x y =>
  ⟨aC (aD (aD v4 om) om) 0,aC (aD (aD v4 om) om) 1,aC (aD (aD v0 om) om) 4⟩
 clear hfin v0 v1 v2 v3 v4 hbV hszV HL HR HB3;cases D with
 | false =>
   first
   | (go_region_law (first | (go_simp; go_at_call 255; refine (HCON.out _).mono ?_; rintro e w' ⟨rfl,rfl⟩)))
   | fail "no way"
   all_goals
    obtain ⟨hin,hbe⟩:=HFIN.out _ rfl;have HIN:=Hh hin;have HBE:=Hh hbe;clear hin hbe;go_wp2_with fail
    refine bodyPost_ret (v:=.tuple #[.agg #[.int .i64 R,.func (.func 287) #[] #[.pointer (some ⟨w3.heap.size,0,none⟩),.pointer (some ⟨w3.heap.size+1,0,none⟩)]],.bool false]) (by simp [results,results232,go_sem,r0,r1]) rfl ⟨_,rfl,HIN.out,HBE.out.trans ⟨rfl,rfl,rfl,Qk _,fun _ _=>rfl⟩⟩
 | true =>
   first
   | (go_region_law (first | (go_simp; go_at_call 255; refine (HCON.out _).mono ?_; rintro e w' ⟨rfl,rfl⟩)))
   | fail "no way"
   all_goals
    obtain ⟨hin,hbe⟩:=HFIN.out _ rfl;have HIN:=Hh hin;have HBE:=Hh hbe;clear hin hbe;go_wp2_with fail
    refine bodyPost_ret (v:=.tuple #[.agg #[.int .i64 R,.func (.func 287) #[] #[.pointer (some ⟨w3.heap.size,0,none⟩),.pointer (some ⟨w3.heap.size+1,0,none⟩)]],.bool (decide (0≤R))]) (by simp [results,results232,go_sem,r0,r1]) rfl ⟨_,rfl,HIN.out,HBE.out.trans ⟨rfl,rfl,rfl,Qk _,fun _ _=>rfl⟩⟩
def cW (ex:List UInt8) (args:List Op3):Int × Option (Int × Int) :=
 if 101∈ex then (dK [10] args,some (-128,127)) else if 110∈ex then (dK [6,7] args,some (0,255)) else if 119∈ex then (dK [6,7] args,some (0,65535)) else (dK [6,7] args,none)
def Ea (x:Int × Option (Int × Int)) (w:World) (e:Ending) (w':World):Prop :=
 ∃ f,e=.returned (.tuple #[.agg #[.int .i64 x.1,f],.bool (x.2.isSome && decide (0≤x.1))])∧(∀ lo hi,x.2=some (lo,hi)→InF w' w.heap.size lo hi f)∧(x.2=none→f=.nilFunc)∧Below w.heap.size w w'
theorem Rk (W:World) (x y:Value) (T:TypeId):Row (W.alloc (.cells #[x,y] T)) (.slice W 2 2) 2 [x,y]:=mD W [x,y] T
theorem Rm (W:World) (x:Value) (T:TypeId):Row (W.alloc (.cells #[x] T)) (.slice W 1 1) 1 [x]:=mD W [x] T
theorem Sg (w:World) (b:Nat) (R lo hi:Int) (w5:World) (v0 v1:Value) (hb:Below w w w5) (h1:w.heap.size+1<b) (h2:b<w5) (h4:w5.heap[b]? = some (.cells #[v0,v1] 291 (0,0)))
 (h5:w5.heap[w.heap.size+1]? = some (.cells #[(0:Int),.nilFunc] 291 (0,0))) :
 ((((w5.setCell b R).setCell ⟨b,1,none⟩ (.func (.func 287) #[] #[.pointer w5,.pointer (w5+1:Nat)])).alloc (.cells #[lo] 3)).alloc (.cells #[hi] 3)).heap[b]? = some (.cells #[R,(.func (.func 287) #[] #[.pointer w5,.pointer (w5+1:Nat)])] 291 (0,0)) ∧
 ((((w5.setCell b R).setCell ⟨b,1,none⟩ (.func (.func 287) #[] #[.pointer w5,.pointer (w5+1:Nat)])).alloc (.cells #[lo] 3)).alloc (.cells #[hi] 3)).heap[w.heap.size+1]? = some (.cells #[(0:Int),.nilFunc] 291 (0,0)) ∧
 ∀ X,X=(((((w5.setCell b R).setCell ⟨b,1,none⟩ (.func (.func 287) #[] #[.pointer w5,.pointer (w5+1:Nat)])).alloc (.cells #[lo] 3)).alloc (.cells #[hi] 3)).setCell ⟨w+1,0,none⟩ R).setCell ⟨w+1,1,none⟩ (.func (.func 287) #[] #[.pointer w5,.pointer (w5+1:Nat)])→InF X w lo hi (.func (.func 287) #[] #[.pointer w5,.pointer (w5+1:Nat)])∧Below w w X:=by
 obtain⟨W,hW⟩:∃ W,(w5.setCell b R).setCell ⟨b,1,none⟩ (.func (.func 287) #[] #[.pointer w5,.pointer (w5+1:Nat)])=W:=⟨_,rfl⟩;have hs:W.heap.size=w5.heap.size:=by rw[←hW,setCell_size,setCell_size]
 have hbw:Below w w W:=by rw[←hW];exact (hb.setCell (p:=b) (by show w.heap.size≤b;omega) _).setCell (p:=⟨b,1,none⟩) (by show w.heap.size≤b;omega) _
 have k4:W.heap[b]? = some (.cells #[R,(.func (.func 287) #[] #[.pointer w5,.pointer (w5+1:Nat)])] 291 (0,0)):=by rw[←hW];exact aG (aG h4)
 have k5:W.heap[w.heap.size+1]? = some (.cells #[(0:Int),.nilFunc] 291 (0,0)):=by rw[←hW];exact aD (aD h5 om) om
 rw[hW];clear hW;have m1:((W.alloc (.cells #[lo] 3)).alloc (.cells #[hi] 3)).heap[w5.heap.size]? = some (.cells #[lo] 3 (0,0)):=by rw[←hs];exact aE (aF _ _)
 have m2:((W.alloc (.cells #[lo] 3)).alloc (.cells #[hi] 3)).heap[w5.heap.size+1]? = some (.cells #[hi] 3 (0,0)):=by
  have:=aF (W.alloc (.cells #[lo] 3)) (.cells #[hi] 3)
  rwa [Qa,hs] at this
 have hb2:Below w w ((W.alloc (.cells #[lo] 3)).alloc (.cells #[hi] 3)):=(hbw.alloc hbw.size _).alloc (by rw[Qa];have:=hbw.size;omega) _;have hs2:((W.alloc (.cells #[lo] 3)).alloc (.cells #[hi] 3)).heap.size=w5.heap.size+1+1:=by rw[Qa,Qa,hs]
 refine⟨aE (aE k4),aE (aE k5),fun X hX=>?_⟩;rw[hX];refine⟨⟨w5,w5.heap.size+1,rfl,om,om,by rw[setCell_size,setCell_size,hs2];omega,by rw[setCell_size,setCell_size,hs2];omega,?_,?_⟩,(hb2.setCell (p:=⟨w+1,0,none⟩) (by show w.heap.size≤w.heap.size+1;omega) _).setCell (p:=⟨w+1,1,none⟩) (by show w.heap.size≤w.heap.size+1;omega) _⟩
 · exact aC (aD (aD m1 om) om) 0
 · exact aC (aD (aD m2 om) om) 0
theorem yP (w:World) (R lo hi:Int) (w3:World) (hb:Below w w w3) (h1:w.heap.size+1<w3.heap.size)
 (h5:w3.heap[w.heap.size+1]? = some (.cells #[(0:Int),.nilFunc] 291 (0,0))) :
 (((w3.alloc (.cells #[R,(.func (.func 287) #[] #[.pointer (w3+1:Nat),.pointer (some ⟨w3.heap.size+1+1,0,none⟩)])] 291)).alloc (.cells #[lo] 3)).alloc (.cells #[hi] 3)).heap[w3.heap.size]? = some (.cells #[R,(.func (.func 287) #[] #[.pointer (w3+1:Nat),.pointer (some ⟨w3.heap.size+1+1,0,none⟩)])] 291 (0,0)) ∧
 (((w3.alloc (.cells #[R,(.func (.func 287) #[] #[.pointer (w3+1:Nat),.pointer (some ⟨w3.heap.size+1+1,0,none⟩)])] 291)).alloc (.cells #[lo] 3)).alloc (.cells #[hi] 3)).heap[w.heap.size+1]? = some (.cells #[(0:Int),.nilFunc] 291 (0,0))∧w.heap.size+1<(((w3.alloc (.cells #[R,(.func (.func 287) #[] #[.pointer (w3+1:Nat),.pointer (some ⟨w3.heap.size+1+1,0,none⟩)])] 291)).alloc (.cells #[lo] 3)).alloc (.cells #[hi] 3)).heap.size ∧
 ∀ X,X=((((w3.alloc (.cells #[R,(.func (.func 287) #[] #[.pointer (w3+1:Nat),.pointer (some ⟨w3.heap.size+1+1,0,none⟩)])] 291)).alloc (.cells #[lo] 3)).alloc (.cells #[hi] 3)).setCell ⟨w+1,0,none⟩ R).setCell ⟨w+1,1,none⟩ (.func (.func 287) #[] #[.pointer (w3+1:Nat),.pointer (some ⟨w3.heap.size+1+1,0,none⟩)])→InF X w lo hi (.func (.func 287) #[] #[.pointer (w3+1:Nat),.pointer (some ⟨w3.heap.size+1+1,0,none⟩)])∧Below w w X:=by
 have m1:(((w3.alloc (.cells #[R,(.func (.func 287) #[] #[.pointer (w3+1:Nat),.pointer (some ⟨w3.heap.size+1+1,0,none⟩)])] 291)).alloc (.cells #[lo] 3)).alloc (.cells #[hi] 3)).heap[w3.heap.size+1]? = some (.cells #[lo] 3 (0,0)):=by
  have:=aF (w3.alloc (.cells #[R,(.func (.func 287) #[] #[.pointer (w3+1:Nat),.pointer (some ⟨w3.heap.size+1+1,0,none⟩)])] 291)) (.cells #[lo] 3)
  rw[Qa] at this;exact aE this
 have m2:(((w3.alloc (.cells #[R,(.func (.func 287) #[] #[.pointer (w3+1:Nat),.pointer (some ⟨w3.heap.size+1+1,0,none⟩)])] 291)).alloc (.cells #[lo] 3)).alloc (.cells #[hi] 3)).heap[w3.heap.size+1+1]? = some (.cells #[hi] 3 (0,0)):=by
  have:=aF ((w3.alloc (.cells #[R,(.func (.func 287) #[] #[.pointer (w3+1:Nat),.pointer (some ⟨w3.heap.size+1+1,0,none⟩)])] 291)).alloc (.cells #[lo] 3)) (.cells #[hi] 3)
  rwa [Qa,Qa] at this
 have hs:=hb.size;have hb2:Below w w (((w3.alloc (.cells #[R,(.func (.func 287) #[] #[.pointer (w3+1:Nat),.pointer (some ⟨w3.heap.size+1+1,0,none⟩)])] 291)).alloc (.cells #[lo] 3)).alloc (.cells #[hi] 3)):=((hb.alloc hb.size _).alloc (by rw[Qa];omega) _).alloc (by rw[Qa,Qa];omega) _;have hs2:(((w3.alloc (.cells #[R,(.func (.func 287) #[] #[.pointer (w3+1:Nat),.pointer (some ⟨w3.heap.size+1+1,0,none⟩)])] 291)).alloc (.cells #[lo] 3)).alloc (.cells #[hi] 3)).heap.size=w3.heap.size+1+1+1:=by rw[Qa,Qa,Qa]
 refine⟨aE (aE (aF _ _)),aE (aE (aE h5)),om,fun X hX=>?_⟩
 rw[hX];refine⟨⟨w3+1,w3.heap.size+1+1,rfl,om,om,by rw[setCell_size,setCell_size,hs2];omega,by rw[setCell_size,setCell_size,hs2];omega,?_,?_⟩,(hb2.setCell (p:=⟨w+1,0,none⟩) (by show w.heap.size≤w.heap.size+1;omega) _).setCell (p:=⟨w+1,1,none⟩) (by show w.heap.size≤w.heap.size+1;omega) _⟩
 · exact aC (aD (aD m1 om) om) 0
 · exact aC (aD (aD m2 om) om) 0
theorem nY (E:Ent) (ve:Value) (w:World) (he:Row w ve E.args.length (opc E.args)) (hel:E.args.length≤1000) :
 Calls prog 233 #[cP E ve] w (Ea (cW E.extra E.args) w):=by
 obtain⟨page,op,mn,args,ex,al⟩:=E;dsimp only at he hel ⊢;have HR:=Hh he;obtain⟨ae,ce,rfl,_,_⟩:=he;show Calls prog 233 #[.agg #[page,.int .u8 op,mn,.slice ae args.length ce,ex,.bool al]] w _
 have hlast:=fun X vk (hb:Below w w X) (hk:Row X vk 2 [Value.int .i64 6,Value.int .i64 7])=>sM mn (.slice ae args.length ce) vk args [6,7] X (HR.out.below hb) hel hk dc dc;have hlast2:=fun X vk (hb:Below w w X) (hk:Row X vk 1 [Value.int .i64 10])=>sM mn (.slice ae args.length ce) vk args [10] X (HR.out.below hb) hel hk dc dc;obtain⟨R,hR⟩:∃ R,dK [6,7] args=R:=⟨_,rfl⟩;obtain⟨R2,hR2⟩:∃ R,dK [10] args=R:=⟨_,rfl⟩;have hspec:cW ex args=if 101∈ex then (R2,some (-128,127)) else if 110∈ex then (R,some (0,255)) else if 119∈ex then (R,some (0,65535)) else (R,none):=by rw[←hR,←hR2];rfl
 rw[hspec];clear hspec;rw[hR] at hlast;rw[hR2] at hlast2;have HL:=Hh hlast;clear hlast hR;have HL2:=Hh hlast2;clear hlast2 hR2;have hce:=fun X=>gI ex 101 X;have hcn:=fun X=>gI ex 110 X;have hcw:=fun X=>gI ex 119 X;have hb5:Below w w (((w.alloc (.cells #[page,.int .u8 op,mn,.slice ae args.length ce,ex,.bool al] 211)).alloc (.cells #[(0:Int),.nilFunc] 291)).alloc (.cells #[(6:Int),(7:Int)] 3)):=((br.alloc lr _).alloc sm _).alloc (by simp;omega) _;have hsz5:(((w.alloc (.cells #[page,.int .u8 op,mn,.slice ae args.length ce,ex,.bool al] 211)).alloc (.cells #[(0:Int),.nilFunc] 291)).alloc (.cells #[(6:Int),(7:Int)] 3)).heap.size=w.heap.size+1+1+1:=by simp
 have hrow5:=Rk ((w.alloc (.cells #[page,.int .u8 op,mn,.slice ae args.length ce,ex,.bool al] 211)).alloc (.cells #[(0:Int),.nilFunc] 291)) (.int .i64 6) (.int .i64 7) 3;rw[Qa,Qa] at hrow5;have h0:(((w.alloc (.cells #[page,.int .u8 op,mn,.slice ae args.length ce,ex,.bool al] 211)).alloc (.cells #[(0:Int),.nilFunc] 291)).alloc (.cells #[(6:Int),(7:Int)] 3)).heap[w.heap.size]? = some (.cells #[page,.int .u8 op,mn,.slice ae args.length ce,ex,.bool al] 211 (0,0)):=aE (aE (aF _ _));have h1:(((w.alloc (.cells #[page,.int .u8 op,mn,.slice ae args.length ce,ex,.bool al] 211)).alloc (.cells #[(0:Int),.nilFunc] 291)).alloc (.cells #[(6:Int),(7:Int)] 3)).heap[w.heap.size+1]? = some (.cells #[(0:Int),.nilFunc] 291 (0,0)):=by
  have:=aF (w.alloc (.cells #[page,.int .u8 op,mn,.slice ae args.length ce,ex,.bool al] 211)) (.cells #[(0:Int),.nilFunc] 291)
  rw[Qa] at this;exact aE this
 have HPRE:=Hh (And.intro hb5 (And.intro hsz5 (And.intro hrow5 (And.intro h0 h1))));clear hb5 hsz5 hrow5 h0 h1;have hstart:∀ (K:World→Prop),(∀ w3,w.heap.size+1+1≤w3.heap.size→w3.heap[w.heap.size]? = some (.cells #[page,.int .u8 op,mn,.slice ae args.length ce,ex,.bool al] 211 (0,0))→w3.heap[w.heap.size+1]? = some (.cells #[(0:Int),.nilFunc] 291 (0,0))→Below w w w3→K w3)→True:=fun _ _=>trivial;clear hstart;by_cases d1:101∈ex
 · rw[if_pos d1];rw[Qh d1] at hce;have HCE:=Hh hce;clear hce hcn hcw d1;go_enter func233,ntmps233
   go_wp2_with fail
   obtain⟨p1,p2,p3,p4,p5⟩:=HPRE.out;refine (HL.out _ _ p1 p3).mono ?_;rintro e w3 ⟨rfl,hb3⟩;have hs3:=hb3.size;have hlt:w.heap.size+1+1<w3.heap.size:=om
   have h03:=aB p4 hb3 om;have h13:=aB p5 hb3 om;have HB3:=Hh (p1.trans (hb3.mono p1.size));obtain⟨⟨_,_,t2,t3,t4,_⟩,_⟩:=aN h03;have H13:=Hh h13;clear p1 p2 p3 p4 p5 hb3 hs3 h03 h13;have hl0:w.heap.size<w3.heap.size:=om
   have hl1:w.heap.size+1<w3.heap.size:=om
   go_wp2_with fail
   refine (HCE.out _).mono ?_;rintro e w4 ⟨rfl,rfl⟩;go_wp2_with fail
   have q1:Below w3 w3 ((w3.alloc (.cells #[R,.nilFunc] 291)).alloc (.cells #[(10:Int)] 3)):=(br.alloc lr _).alloc sm _;have q2:=Rm (w3.alloc (.cells #[R,.nilFunc] 291)) (.int .i64 10) 3;rw[Qa] at q2;have q3:((w3.alloc (.cells #[R,.nilFunc] 291)).alloc (.cells #[(10:Int)] 3)).heap[w3.heap.size]? = some (.cells #[R,.nilFunc] 291 (0,0)):=aE (aF _ _);refine (HL2.out _ _ (HB3.out.trans (q1.mono HB3.out.size)) q2).mono ?_;rintro e w5 ⟨rfl,hb5⟩;have hs5:w3.heap.size+1+1≤w5.heap.size:=by have:=hb5.size;simp at this;omega
   have h35:Below w3 w3 w5:=q1.trans (hb5.mono q1.size);have h45:=aB q3 hb5 (by simp;omega);have h15:=aB H13.out h35 hl1;have HB5:=Hh (HB3.out.trans (h35.mono HB3.out.size));clear q1 q2 q3 hb5 h35;have H45:=Hh h45;have H15:=Hh h15;obtain⟨a0,a1,a2,a3⟩:=aL h45;clear h45 h15;have hl4:w3.heap.size<w5.heap.size:=om
   go_wp2_with fail
   refine (wP (-128) 127 _).mono ?_;rintro e w6 ⟨rfl,rfl⟩;go_wp2_with fail
   have HF:=Sg w w3 R2 (-128) 127 w5 _ _ HB5.out om hl4 H45.out H15.out;obtain⟨V,hV⟩:∃ V,((((w5.setCell w3 R2).setCell ⟨w3,1,none⟩ (.func (.func 287) #[] #[.pointer w5,.pointer (w5+1:Nat)])).alloc (.cells #[.int .i64 (-128)] 3)).alloc (.cells #[(127:Int)] 3))=V:=⟨_,rfl⟩;rw[hV] at HF ⊢;obtain⟨v4,v2,hfin⟩:=HF;obtain⟨z0,z1,y0,y1⟩:=aL v4;obtain⟨r0,r1,x0,x1⟩:=aL v2;have HFIN:=Hh hfin;have hne:w3.heap.size≠w.heap.size+1:=om
   clear hfin hV v4 v2 a0 a1 a2 a3;go_region
   all_goals
    obtain⟨hin,hbe⟩:=HFIN.out _ rfl;have HIN:=Hh hin;have HBE:=Hh hbe;clear hin hbe;go_wp2_with fail
    refine bodyPost_ret (v:=.tuple #[.agg #[R2,(.func (.func 287) #[] #[.pointer w5,.pointer (w5+1:Nat)])],.bool (decide (0≤R2))]) (by simp[results,results233,go_sem,r0,r1]) rfl ⟨_,rfl,fun lo hi e=>?_,fun e=>(by cases e),HBE.out.trans ⟨rfl,rfl,rfl,Qk _,fun _ _=>rfl⟩⟩;cases e
    exact HIN.out
 · rw[if_neg d1];rw[Qg d1] at hce;have HCE:=Hh hce;clear hce d1;by_cases d2:110∈ex
   · rw[if_pos d2];rw[Qh d2] at hcn;have HCN:=Hh hcn;clear hcn hcw d2;go_enter func233,ntmps233
     go_wp2_with fail
     obtain⟨p1,p2,p3,p4,p5⟩:=HPRE.out;refine (HL.out _ _ p1 p3).mono ?_;rintro e w3 ⟨rfl,hb3⟩;have hs3:=hb3.size;have hlt:w.heap.size+1+1<w3.heap.size:=om
     have h03:=aB p4 hb3 om;have h13:=aB p5 hb3 om;have HB3:=Hh (p1.trans (hb3.mono p1.size));obtain⟨⟨_,_,t2,t3,t4,_⟩,_⟩:=aN h03;have H13:=Hh h13;clear p1 p2 p3 p4 p5 hb3 hs3 h03 h13;have hl0:w.heap.size<w3.heap.size:=om
     have hl1:w.heap.size+1<w3.heap.size:=om
     go_wp2_with fail
     refine (HCE.out _).mono ?_;rintro e w4 ⟨rfl,rfl⟩;go_wp2_with fail
     refine (HCN.out _).mono ?_;rintro e w4 ⟨rfl,rfl⟩;go_wp2_with fail
     refine (wP 0 255 _).mono ?_;rintro e w6 ⟨rfl,rfl⟩;go_wp2_with fail
     have HF:=yP w R 0 255 w3 HB3.out hl1 H13.out;obtain⟨V,hV⟩:∃ V,(((w3.alloc (.cells #[R,(.func (.func 287) #[] #[.pointer (w3+1:Nat),.pointer (some ⟨w3.heap.size+1+1,0,none⟩)])] 291)).alloc (.cells #[(0:Int)] 3)).alloc (.cells #[(255:Int)] 3))=V:=⟨_,rfl⟩;rw[hV] at HF ⊢;obtain⟨v4,v2,hlV,hfin⟩:=HF;obtain⟨z0,z1,y0,y1⟩:=aL v4;obtain⟨r0,r1,x0,x1⟩:=aL v2;have HFIN:=Hh hfin;have hne:w3.heap.size≠w.heap.size+1:=om
     clear hfin hV v4 v2;go_region
     all_goals
      obtain⟨hin,hbe⟩:=HFIN.out _ rfl;have HIN:=Hh hin;have HBE:=Hh hbe;clear hin hbe;go_wp2_with fail
      refine bodyPost_ret (v:=.tuple #[.agg #[R,(.func (.func 287) #[] #[.pointer (w3+1:Nat),.pointer (some ⟨w3.heap.size+1+1,0,none⟩)])],.bool (decide (0≤R))]) (by simp[results,results233,go_sem,r0,r1]) rfl ⟨_,rfl,fun lo hi e=>?_,fun e=>(by cases e),HBE.out.trans ⟨rfl,rfl,rfl,Qk _,fun _ _=>rfl⟩⟩;cases e
      exact HIN.out
   · rw[if_neg d2];rw[Qg d2] at hcn;have HCN:=Hh hcn;clear hcn d2;by_cases d3:119∈ex
     · rw[if_pos d3];rw[Qh d3] at hcw;have HCW:=Hh hcw;clear hcw d3;go_enter func233,ntmps233
       go_wp2_with fail
       obtain⟨p1,p2,p3,p4,p5⟩:=HPRE.out;refine (HL.out _ _ p1 p3).mono ?_;rintro e w3 ⟨rfl,hb3⟩;have hs3:=hb3.size;have hlt:w.heap.size+1+1<w3.heap.size:=om
       have h03:=aB p4 hb3 om;have h13:=aB p5 hb3 om;have HB3:=Hh (p1.trans (hb3.mono p1.size));obtain⟨⟨_,_,t2,t3,t4,_⟩,_⟩:=aN h03;have H13:=Hh h13;clear p1 p2 p3 p4 p5 hb3 hs3 h03 h13;have hl0:w.heap.size<w3.heap.size:=om
       have hl1:w.heap.size+1<w3.heap.size:=om
       go_wp2_with fail
       refine (HCE.out _).mono ?_;rintro e w4 ⟨rfl,rfl⟩;go_wp2_with fail
       refine (HCN.out _).mono ?_;rintro e w4 ⟨rfl,rfl⟩;go_wp2_with fail
       refine (HCW.out _).mono ?_;rintro e w4 ⟨rfl,rfl⟩;go_wp2_with fail
       refine (wP 0 65535 _).mono ?_;rintro e w6 ⟨rfl,rfl⟩;go_wp2_with fail
       have HF:=yP w R 0 65535 w3 HB3.out hl1 H13.out;obtain⟨V,hV⟩:∃ V,(((w3.alloc (.cells #[R,(.func (.func 287) #[] #[.pointer (w3+1:Nat),.pointer (some ⟨w3.heap.size+1+1,0,none⟩)])] 291)).alloc (.cells #[(0:Int)] 3)).alloc (.cells #[(65535:Int)] 3))=V:=⟨_,rfl⟩;rw[hV] at HF ⊢;obtain⟨v4,v2,hlV,hfin⟩:=HF;obtain⟨z0,z1,y0,y1⟩:=aL v4;obtain⟨r0,r1,x0,x1⟩:=aL v2;have HFIN:=Hh hfin;have hne:w3.heap.size≠w.heap.size+1:=om
       clear hfin hV v4 v2;go_region
       all_goals
        obtain⟨hin,hbe⟩:=HFIN.out _ rfl;have HIN:=Hh hin;have HBE:=Hh hbe;clear hin hbe;go_wp2_with fail
        refine bodyPost_ret (v:=.tuple #[.agg #[R,(.func (.func 287) #[] #[.pointer (w3+1:Nat),.pointer (some ⟨w3.heap.size+1+1,0,none⟩)])],.bool (decide (0≤R))]) (by simp[results,results233,go_sem,r0,r1]) rfl ⟨_,rfl,fun lo hi e=>?_,fun e=>(by cases e),HBE.out.trans ⟨rfl,rfl,rfl,Qk _,fun _ _=>rfl⟩⟩;cases e
        exact HIN.out
     · rw[if_neg d3];rw[Qg d3] at hcw;have HCW:=Hh hcw;clear hcw d3;go_enter func233,ntmps233
       go_wp2_with fail
       obtain⟨p1,p2,p3,p4,p5⟩:=HPRE.out;refine (HL.out _ _ p1 p3).mono ?_;rintro e w3 ⟨rfl,hb3⟩;have hs3:=hb3.size;have hlt:w.heap.size+1+1<w3.heap.size:=om
       have h03:=aB p4 hb3 om;have h13:=aB p5 hb3 om;have HB3:=Hh (p1.trans (hb3.mono p1.size));obtain⟨⟨_,_,t2,t3,t4,_⟩,_⟩:=aN h03;have H13:=Hh h13;clear p1 p2 p3 p4 p5 hb3 hs3 h03 h13;have hl0:w.heap.size<w3.heap.size:=om
       have hl1:w.heap.size+1<w3.heap.size:=om
       go_wp2_with fail
       refine (HCE.out _).mono ?_;rintro e w4 ⟨rfl,rfl⟩;go_wp2_with fail
       refine (HCN.out _).mono ?_;rintro e w4 ⟨rfl,rfl⟩;go_wp2_with fail
       obtain⟨r0,r1,x0,x1⟩:=aL H13.out;refine (HCW.out _).mono ?_;rintro e w4 ⟨rfl,rfl⟩;go_wp2_with fail
       have h9:(((w3.setCell ⟨w+1,0,none⟩ R).setCell ⟨w+1,1,none⟩ .nilFunc).alloc (.cells #[R,.nilFunc] 291)).heap[w.heap.size+1]? = some (.cells #[R,.nilFunc] 291 (0,0)):=aE (aG (aG H13.out));obtain⟨n0,n1,_,_⟩:=aL h9;refine bodyPost_ret (v:=.tuple #[.agg #[R,.nilFunc],.bool false]) (by simp[results,results233,go_sem,n0,n1]) rfl ⟨_,rfl,fun lo hi e=>(by cases e),fun _=>rfl,?_⟩;exact ((HB3.out.setCell (p:=⟨w+1,0,none⟩) (by show w.heap.size≤w.heap.size+1;omega) _).setCell (p:=⟨w+1,1,none⟩) (by show w.heap.size≤w.heap.size+1;omega) _).alloc (by rw[setCell_size,setCell_size];exact HB3.out.size) _
theorem Oy (v f:Value) (p:Int) (b:Nat) (w:World) (hv:v=.agg #[p,f]) (hf:f=.nilFunc∨∃ fn b1 b2,f=.func (.func fn) #[] #[.pointer b1,.pointer b2]) :
 Calls prog 243 #[v,.bool false,.pointer b] w fun e w'=>e=.returned (0:Int)∧Below w w w':=by
 subst hv;rcases hf with rfl|⟨fn,b1,b2,rfl⟩
 · go_enter func243,ntmps243
   go_wp2_with fail
   go_ret;exact⟨rfl,bl⟩
 · go_enter func243,ntmps243
   go_wp2_with fail
   go_ret;exact⟨rfl,bl⟩
theorem Oz (lo hi:Int) (f:Value) (k b base:Nat) (m:List UInt8) (v:Value) (l:List Op3) (o:Op3) (w:World) (hf:InF w 0 lo hi f) (hb:w.heap[b]? = some (.cells #[m,v] 53 (0,0))) (hr:WRow w base v l.length (opc l)) (hbb:v.ownBlock≠some b) (hl:l.length≤1000) (ho:l[k]? = some o) (hin:(decide (lo≤o.2.2) && decide (o.2.2≤hi))=true) :
 Calls prog 243 #[.agg #[k,f],.bool true,.pointer b] w fun e w'=>e=.returned o.2.2∧w'.heap[b]? = some (.cells #[m,v] 53 (0,0))∧WRow w' base v l.length (opc (l.set k (o.1,o.2.1,0)))∧Below (min b base) w w':=by
 obtain⟨b1,b2,rfl,_,_,hl1,hl2,c1,c2⟩:=hf;have hlt:k<l.length:=(Qd.1 ho).1;have hset:=hr;obtain⟨a,c,rfl,_,hh⟩:=hr.op;obtain⟨g,off,rfl,hg0,hg1,hh⟩:=hh (by rintro rfl;exact absurd hlt (Qw _))
 have HGB:=Hh (fun e:b=g=>hbb (congrArg some e.symm));clear hbb;obtain⟨k0,k1,k2,f0,f1,f2⟩:=hh k o ho;have hsetN:=WRow.setN (m:=0) hset ho;obtain⟨t0,t1,s0,s1⟩:=aL hb;have hbl:=aA hb;have hi0:(0:Int)≤(k:Int):=om
 have hi1:(k:Int)<(l.length:Int):=om
 have HC1:=Hh c1;have HC2:=Hh c2;have hin1:=fun W (hB:Below w w W)=>wS o.2.2 lo hi b1 b2 W ((hB.cell (p:=b1) hl1).trans HC1.out) ((hB.cell (p:=b2) hl2).trans HC2.out);rw[hin] at hin1;have HIN:=Hh hin1;clear hh hin1 hin c1 c2;go_enter func243,ntmps243
 go_wp2_with fail
 refine (HIN.out _ (bl)).mono ?_;rintro e w2 ⟨rfl,hb2⟩;have hbx:=aW hb2;have hbw:=aK hb2;obtain⟨n0,n1,_,_⟩:=aL hbx;have hb9:=aB hb hbw hbl;obtain⟨t0',t1',s0',s1'⟩:=aL hb9;have hrow2:=(WRow.below hset hbw).op;obtain⟨_,_,he,_,hh⟩:=hrow2;cases he
 obtain⟨_,_,he,_,hg2,hh⟩:=hh (by rintro rfl;exact absurd hlt (Qw _))
 cases he
 obtain⟨k0',k1',k2',f0',f1',f2'⟩:=hh k o ho;have hset2:=WRow.setN (m:=0) (WRow.below hset hbw) ho;have HS2:=Hh hset2;have HB9:=Hh hb9;have HBW:=Hh hbw;have hbl2:=aA hb9;clear hh hset2 hset hsetN hbx hbw hb9 hb2 hb hr t0 t1 s0 s1 k0 k1 k2 f0 f1 f2;go_wp2_with fail
 go_ret;exact⟨rfl,aD HB9.out HGB.out,HS2.out,(HBW.out.mono om).setCell (p:=⟨g,off+k*3+2,none⟩) (by show min b base≤g;omega) _⟩
theorem Ii (lo hi:Int) (f:Value) (k b base:Nat) (m:List UInt8) (v:Value) (l:List Op3) (o:Op3) (w:World) (hf:InF w 0 lo hi f) (hb:w.heap[b]? = some (.cells #[m,v] 53 (0,0))) (hr:WRow w base v l.length (opc l)) (hbb:v.ownBlock≠some b) (hl:l.length≤1000) (ho:l[k]? = some o) (hin:(decide (lo≤o.2.2) && decide (o.2.2≤hi))=false) :
 Calls prog 243 #[.agg #[k,f],.bool true,.pointer b] w fun e w'=>e=.returned o.2.2∧w'.heap[b]? = some (.cells #[(),v] 53 (0,0))∧WRow w' base v l.length (opc l)∧Below (min b base) w w':=by
 obtain⟨b1,b2,rfl,_,_,hl1,hl2,c1,c2⟩:=hf;have hlt:k<l.length:=(Qd.1 ho).1;have hset:=hr;obtain⟨a,c,rfl,_,hh⟩:=hr.op;obtain⟨g,off,rfl,hg0,hg1,hh⟩:=hh (by rintro rfl;exact absurd hlt (Qw _))
 have HBB:=Hh hbb;clear hbb;obtain⟨k0,k1,k2,f0,f1,f2⟩:=hh k o ho;obtain⟨t0,t1,s0,s1⟩:=aL hb;have hbl:=aA hb;have hi0:(0:Int)≤(k:Int):=om
 have hi1:(k:Int)<(l.length:Int):=om
 have HC1:=Hh c1;have HC2:=Hh c2;have hin1:=fun W (hB:Below w w W)=>wS o.2.2 lo hi b1 b2 W ((hB.cell (p:=b1) hl1).trans HC1.out) ((hB.cell (p:=b2) hl2).trans HC2.out);rw[hin] at hin1;have HIN:=Hh hin1;clear hh hin1 hin c1 c2;go_enter func243,ntmps243
 go_wp2_with fail
 refine (HIN.out _ (bl)).mono ?_;rintro e w2 ⟨rfl,hb2⟩;have hbx:=aW hb2;have hbw:=aK hb2;obtain⟨n0,n1,_,_⟩:=aL hbx;have hb9:=aB hb hbw hbl;obtain⟨t0',t1',s0',s1'⟩:=aL hb9;have hrow2:=(WRow.below hset hbw).op;obtain⟨_,_,he,_,hh⟩:=hrow2;cases he
 obtain⟨_,_,he,_,hg2,hh⟩:=hh (by rintro rfl;exact absurd hlt (Qw _))
 cases he
 obtain⟨k0',k1',k2',f0',f1',f2'⟩:=hh k o ho;have hset2:=WRow.below hset hbw;have HS2:=Hh hset2;have HB9:=Hh hb9;have HBW:=Hh hbw;have hbl2:=aA hb9;clear hh hset2 hset hbx hbw hb9 hb2 hb hr t0 t1 s0 s1 k0 k1 k2 f0 f1 f2;go_wp2_with fail
 go_ret;exact⟨rfl,aG HB9.out,WRow.kb_ne HS2.out ((Kb.refl b w2).setCell 0 _) (fun _=>HBB.out),(HBW.out.mono om).setCell (p:=b) (by show min b base≤b;omega) _⟩
end
section
open Go.RowKit Go.Sort
theorem Ud:∀ k:Fin 11,1≤k.val→klo k.val≤0∧0≤khi k.val:=by decide +kernel
theorem Te:∀ k:Fin 11,∀ r:Fin 9,bP (k.val:Int) (r.val:Int) 0=true→eF (k.val:Int) (r.val:Int) 0=zF (k.val:Int) (r.val:Int):=by decide +kernel
theorem wK {k r n:Int} (h:bP k r n=true):bP k r 0=true:=by
 unfold bP at h ⊢;simp only[Qe,Qf] at h ⊢;obtain⟨⟨⟨⟨⟨⟨h1,h2⟩,h3⟩,h4⟩,h5⟩,h6⟩,h7⟩:=h;have hb:=Ud ⟨k.toNat,om⟩ (by show 1≤k.toNat;omega)
 exact⟨⟨⟨⟨⟨⟨h1,h2⟩,h3⟩,h4⟩,h5⟩,hb.1⟩,hb.2⟩
theorem Tc {k r n:Int} (h:bP k r n=true):eF k r 0=zF k r:=by
 have h0:=wK h;have h':=h0;unfold bP at h';simp only[Qe,Qf] at h';obtain⟨⟨⟨⟨⟨⟨h1,h2⟩,h3⟩,h4⟩,h5⟩,h6⟩,h7⟩:=h';have hk:k=((⟨k.toNat,om⟩:Fin 11).val:Int):=by show k=(k.toNat:Int);omega
 have hr:r=((⟨r.toNat,om⟩:Fin 9).val:Int):=by show r=(r.toNat:Int);omega
 rw[hk,hr] at h0 ⊢;exact Te _ _ h0
theorem iK {ks:List Int} {l:List Op3} {k:Nat} (h:kR ks l=some k):dK ks l=k:=by unfold dK;rw[h]
theorem Cn {ks:List Int} {l:List Op3} (h:kR ks l=none):dK ks l=-1:=by unfold dK;rw[h]
theorem oA {ks:List Int} {l:List Op3} {k:Nat} (h:kR ks l=some k):k<l.length:=by
 have:=Za h
 simpa using this
theorem oB (ks:List Int) (l:List Op3):decide (0≤dK ks l)=(kR ks l).isSome:=by
 cases h:kR ks l with
 | none=>rw[Cn h];rfl
 | some k=>rw[iK h];simp
theorem Tw (e:Ent):(decide (100∈e.extra) && decide (0≤dK [5] e.args))=(fJ e).isSome:=by
 unfold fJ;rw[oB];by_cases h:100∈e.extra<;>simp[h]
theorem Tx {e:Ent} {k:Nat} (h:fJ e=some k):dK [5] e.args=k∧k<e.args.length:=by
 unfold fJ at h;split at h
 · exact⟨iK h,oA h⟩
 · cases h
def cO (c:UInt8):Int × Int:=if c=100∨c=101 then (-128,127) else if c=110 then (0,255) else (0,65535)
theorem tM (c:UInt8) (n:Int):bM c n=(decide ((cO c).1≤n) && decide (n≤(cO c).2)):=by
 unfold bM cO;split
 · rfl
 · split<;>rfl
theorem Sf (e:Ent):((cW e.extra e.args).2.isSome && decide (0≤(cW e.extra e.args).1))=(fM e).isSome:=by
 unfold cW fM;split
 · rw[oB];simp
 · split
   · rw[oB];simp
   · split
     · rw[oB];simp
     · rfl
theorem Es {e:Ent} {k:Nat} {c:UInt8} (h:fM e=some (k,c)):(cW e.extra e.args).1=k∧(cW e.extra e.args).2=some (cO c)∧k<e.args.length:=by
 unfold fM at h;unfold cW;split at h
 · rename_i h1;rw[if_pos h1];obtain⟨q,hq,he⟩:=Qr.1 h;cases he
   exact⟨iK hq,rfl,oA hq⟩
 · rename_i h1;rw[if_neg h1];split at h
   · rename_i h2;rw[if_pos h2];obtain⟨q,hq,he⟩:=Qr.1 h;cases he
     exact⟨iK hq,rfl,oA hq⟩
   · rename_i h2;rw[if_neg h2];split at h
     · rename_i h3;rw[if_pos h3];obtain⟨q,hq,he⟩:=Qr.1 h;cases he
       exact⟨iK hq,rfl,oA hq⟩
     · cases h
end
section
open Go.RowKit Go.Sort
open Go.Proofs.Tryz
theorem tG (m:List UInt8) (a:Option Addr) (n c:Nat) (w:World):Calls prog 201 #[eU m (.slice a n c)] w fun e w'=>e=.returned (.func (.func 238) #[] #[.pointer w])∧w'=w.alloc (.cells #[m,.slice a n c] 53):=by
 go_enter func201,ntmps201
 go_wp2_with fail
 go_ret;exact⟨rfl,rfl⟩
end
end Go.Proofs.YtoigglljnklhlaaGreatDoor
