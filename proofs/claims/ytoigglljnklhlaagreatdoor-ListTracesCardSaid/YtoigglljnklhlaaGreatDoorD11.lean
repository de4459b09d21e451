/- Joined. -/
import Derived.Test.YtoigglljnklhlaaGreatDoorD10
set_option maxHeartbeats 8000000
set_option maxRecDepth 100000
namespace Go.Proofs.YtoigglljnklhlaaGreatDoor
section
open Go.RowKit Go.Sort
def lkL (f:Op3→Op3) (l:List Op3) (k:Nat):List Op3:=(l.take k).map f++l.drop k
theorem bY (f:Op3→Op3) (l:List Op3) (k:Nat):(lkL f l k).length=l.length:=by
 unfold lkL;rw[Qc,Qs,Qt,Xm];omega
theorem nF {f:Op3→Op3} {l:List Op3} {k:Nat} {x:Op3} (h:l[k]? = some x):(lkL f l k)[k]? = some x:=by
 have hk:=(Qd.1 h).1;unfold lkL;rw[Yf (by rw[Qs,Qt];omega),Qs,Qt,Yz (Xr hk),Nat.sub_self,Yh,Xu,h]
theorem kG {f:Op3→Op3} {l:List Op3} {k:Nat} {x y:Op3} (h:l[k]? = some x) (hy:f x=y):(lkL f l k).set k y=lkL f l (k+1):=by
 have hk:=(Qd.1 h).1;unfold lkL;rw[Qo,h,List.set_append,if_neg (by rw[Qs,Qt];omega),Qs,Qt,Yz (Xr hk),Nat.sub_self,Yj hk,(Qd.1 h).2];simp[hy]
theorem cJ {f:Op3→Op3} {l:List Op3} {k:Nat} {x:Op3} (h:l[k]? = some x) (hy:f x=x):lkL f l k=lkL f l (k+1):=by
 have hk:=(Qd.1 h).1;unfold lkL;rw[Qo,h,Yj hk,(Qd.1 h).2];simp[hy]
end
section
open Go.RowKit Go.Sort
open Go.Proofs.Tryz
theorem qG (v1 v2:Value) (a b:List Op3) (w:World) (h1:Row w v1 a.length (opc a)) (h2:Row w v2 b.length (opc b)) (hl:a.length≤1000000) (hl2:b.length≤1000000) :
 Calls prog 205 #[v1,v2] w fun e w'=>e=.returned (.bool (decide (a=b)))∧Below w w w':=by
 obtain⟨a1,c1,rfl,hc1,h1⟩:=h1.op;obtain⟨a2,c2,rfl,hc2,h2⟩:=h2.op;by_cases hlen:a.length=b.length
 · have hle:((a.length:Int) != (b.length:Int))=false:=by simp;omega
   by_cases ha:a=[]
   · subst ha;obtain rfl:b=[]:=Xc hlen.symm;clear h1 h2 hle hlen;go_enter func205,ntmps205
     go_wp2_with fail
     refine wp_loop_rounds 1 ?_;rw[rounds_succ];go_wp2_with fail
     go_ret;exact⟨rfl,Below.refl _ _⟩
   · obtain⟨g1,o1,rfl,hg1,h1⟩:=h1 ha;obtain⟨g2,o2,rfl,hg2,h2⟩:=h2 (by intro e;apply ha;rw[e] at hlen;exact Xc hlen);have H1:=Hh h1;clear h1;have H2:=Hh h2;clear h2;have Ha:=Hh ha;clear ha;have Hlen:=Hh hlen;clear hlen;go_enter func205,ntmps205
     go_wp2_with fail
     go_loopw [5,13] (fun _ i wr=>∃ j:Nat,j≤a.length∧i=.int .i64 j∧Below w w wr∧a.take j=b.take j) (fun _ i _=>a.length - (intOf i).toNat)
     case atStart=>exact⟨0,Qi _,rfl,Below.refl _ _,rfl⟩
     case round =>
      obtain⟨j,hj,rfl,hbel,htk⟩:=hrel;have Htk:=Hh htk;clear htk;by_cases hlt:j<a.length
      · obtain⟨⟨x0,x1,x2⟩,hx⟩:∃ x,a[j]? = some x:=⟨_,Qb hlt⟩;obtain⟨⟨y0,y1,y2⟩,hy⟩:∃ y,b[j]? = some y:=⟨_,Qb (by have:=Hlen.out;omega)⟩;obtain⟨cx0,cx1,cx2⟩:=H1.out j _ hx;obtain⟨cy0,cy1,cy2⟩:=H2.out j _ hy;rw[←hbel.cell (p:=⟨_,_,none⟩) hg1] at cx0 cx1 cx2;rw[←hbel.cell (p:=⟨_,_,none⟩) hg2] at cy0 cy1 cy2;have Hx:=Hh hx;clear hx;have Hy:=Hh hy;clear hy;have HBEL:=Hh hbel;clear hbel;have hi0:(0:Int)≤(j:Int):=om
        have hi1:(j:Int)<(a.length:Int):=om
        have hi2:(j:Int)<(b.length:Int):=by have:=Hlen.out;omega
        by_cases e0:x0=y0
        · by_cases e1:x1=y1
          · by_cases e2:x2=y2
            · subst e0 e1 e2;go_wp2_with fail
              go_region
              all_goals
               go_wp2_with fail
               go_roundw
              case rel=>exact⟨j+1,om,by go_num,HBEL.out.drew,by rw[Qo,Qo,Htk.out,Hx.out,Hy.out]⟩
              case measure=>simp[intOf];omega
            · subst e0 e1;go_wp2_with fail
              go_region
              all_goals
               go_wp2_with fail
               go_ret;exact⟨by rw[Qg (fun e=>e2 (by have h3:=Hx.out;rw[e,Hy.out] at h3;cases h3;rfl))];rfl,HBEL.out.drew⟩
          · subst e0;go_wp2_with fail
            go_region
            all_goals
             go_wp2_with fail
             go_ret;exact⟨by rw[Qg (fun e=>e1 (by have h3:=Hx.out;rw[e,Hy.out] at h3;cases h3;rfl))];rfl,HBEL.out.drew⟩
        · go_wp2_with fail
          go_region
          all_goals
           go_wp2_with fail
           go_ret;exact⟨by rw[Qg (fun e=>e0 (by have h3:=Hx.out;rw[e,Hy.out] at h3;cases h3;rfl))];rfl,HBEL.out.drew⟩
      · obtain rfl:j=a.length:=om
        have hab:a=b:=by
         have:=Htk.out
         rw[Qy,Hlen.out,Qy] at this;exact this
        have Hab:=Hh hab;clear hab;have HBEL:=Hh hbel;clear hbel;go_wp2_with fail
        go_ret;exact⟨by rw[Qh Hab.out];rfl,HBEL.out⟩
 · have hle:((a.length:Int) != (b.length:Int))=true:=by rw[bne_iff_ne];omega
   have hr:decide (a=b)=false:=Qg (fun e=>hlen (by rw[e]));rw[hr];clear h1 h2 hlen hr;go_enter func205,ntmps205
   go_wp2_with fail
   go_ret;exact⟨rfl,Below.refl _ _⟩
def pM (l:List Op3) (x:Op3):Int:=match l.findIdx? (fun o=>o == x) with|some i=>(i:Int)|none=>-1
theorem Tg {l:List Op3} {x:Op3} (h:x∉l):pM l x=-1:=by
 unfold pM;rw[List.findIdx?_eq_none_iff.2 (fun y hy=>by rw[Xd];rintro rfl;exact h hy)]
theorem Th {l:List Op3} {x:Op3} {j:Nat} (h:x∉l.take j) (hj:l[j]? = some x):pM l x=j:=by
 unfold pM;have hlt:=(Qd.1 hj).1;rw[List.findIdx?_eq_some_iff_getElem.2 ⟨hlt,by have:=(Qd.1 hj).2;rw[this];simp,fun i hi=>by
  rw[Bool.not_eq_true,Xd];intro e;apply h
  rw[←e];exact List.mem_take_iff_getElem.2 ⟨i,om,rfl⟩⟩]
theorem jK {l:List Op3} {j:Nat} {x y:Op3} (h:x∉l.take j) (hj:l[j]? = some y) (hne:x≠y):x∉l.take (j+1):=by
 rw[Qo,hj];simp only[Option.toList,Xs,Yd];rintro (h1|h1)
 · exact h h1
 · exact hne h1
theorem vB (v1:Value) (l:List Op3) (x0 x1 x2:Int) (w:World) (h1:Row w v1 l.length (opc l)) (hl:l.length≤1000000) :
 Calls prog 252 #[v1,.agg #[x0,x1,x2]] w fun e w'=>e=.returned (.int .i64 (pM l (x0,x1,x2)))∧Below w w w':=by
 obtain⟨a1,c1,rfl,hc1,h1⟩:=h1.op;have H1:=Hh h1;clear h1;go_enter func252,ntmps252
 go_wp2_with fail
 go_loopw [5,8] (fun _ i wr=>∃ j:Nat,j≤l.length∧i=.int .i64 j∧Below (w.heap.size+1) (w.alloc (.cells #[x0,x1,x2] 144)) wr∧(x0,x1,x2)∉l.take j) (fun _ i _=>l.length - (intOf i).toNat)
 case atStart=>exact⟨0,Qi _,rfl,Below.refl _ _,by simp⟩
 case round =>
  obtain⟨j,hj,rfl,hbel,hno⟩:=hrel;have Hno:=Hh hno;clear hno;have HBW:Below w w wr:=Below.trans (b:=w.alloc (.cells #[x0,x1,x2] 144)) (bl) (hbel.mono om);have HBW':=Hh HBW;clear HBW;have HBW:=HBW';clear HBW';by_cases hlt:j<l.length
  · obtain⟨⟨y0,y1,y2⟩,hy⟩:∃ y,l[j]? = some y:=⟨_,Qb hlt⟩;obtain⟨g,o,rfl,hg,hc⟩:=H1.out (by intro e;rw[e] at hlt;exact absurd hlt (Qw _))
    obtain⟨cy0,cy1,cy2⟩:=hc j _ hy;clear hc;rw[←HBW.out.cell (p:=⟨_,_,none⟩) hg] at cy0 cy1 cy2;have bx0:wr.cell? w=some (.int .i64 x0):=by rw[hbel.cell (p:=w) (Yg _)];simp[go_sem]
    have bx1:wr.cell? ⟨w,1,none⟩=some (.int .i64 x1):=by rw[hbel.cell (p:=⟨w,1,none⟩) (Yg _)];simp[go_sem]
    have bx2:wr.cell? ⟨w,2,none⟩=some (.int .i64 x2):=by rw[hbel.cell (p:=⟨w,2,none⟩) (Yg _)];simp[go_sem]
    have Hy:=Hh hy;clear hy;have HBEL:=Hh hbel;clear hbel;have hi0:(0:Int)≤(j:Int):=om
    have hi1:(j:Int)<(l.length:Int):=om
    by_cases e0:x0=y0
    · by_cases e1:x1=y1
      · by_cases e2:x2=y2
        · subst e0 e1 e2;go_wp2_with fail
          go_region
          all_goals
           go_wp2_with fail
           go_ret;exact⟨by rw[Th Hno.out Hy.out];rfl,HBW.out.drew⟩
        · subst e0 e1;go_wp2_with fail
          go_region
          all_goals
           go_wp2_with fail
           go_roundw
          case rel=>exact⟨j+1,om,by go_num,HBEL.out.drew,jK Hno.out Hy.out (fun e=>e2 (by cases e;rfl))⟩
          case measure=>simp[intOf];omega
      · subst e0;go_wp2_with fail
        go_region
        all_goals
         go_wp2_with fail
         go_roundw
        case rel=>exact⟨j+1,om,by go_num,HBEL.out.drew,jK Hno.out Hy.out (fun e=>e1 (by cases e;rfl))⟩
        case measure=>simp[intOf];omega
    · go_wp2_with fail
      go_region
      all_goals
       go_wp2_with fail
       go_roundw
      case rel=>exact⟨j+1,om,by go_num,HBEL.out.drew,jK Hno.out Hy.out (fun e=>e0 (by cases e;rfl))⟩
      case measure=>simp[intOf];omega
  · obtain rfl:j=l.length:=om
    have hno:=Hno.out;rw[Qy] at hno;have Hno2:=Hh hno;clear hno;go_wp2_with fail
    go_ret;exact⟨by rw[Tg Hno2.out];rfl,HBW.out⟩
theorem iI (w:World) (base:Nat) (e:TypeId) (size:Nat) (hb:base≤w):(w.alloc (.cells #[] e)).ownsRow base e size (.slice w 0 0) 0 [] :=
 ⟨by simp,.inr ⟨w,0,#[],rfl,hb,by show (w.heap.push _)[w.heap.size]? = _;simp,Qk _,by simp,by simp,by simp⟩⟩
theorem Rl {w:World} {v:Value} {l:List Op3} (h:Row w v l.length (opc l)):(l=[]∧∃ c,v=.slice none 0 c)∨∃ ad c,v=.slice (some ad) l.length c∧∀ j u,(opc l)[j]? = some u→w.cell? (ad.add j)=some u:=by
 obtain⟨a,cap,rfl,hn,h⟩:=h;by_cases hx:opc l=[]
 · have hl:l=[]:=by
    have:=cG l
    rw[hx] at this;exact Xc (by simp at this;omega)
   subst hl;cases a with
   | none=>exact .inl ⟨rfl,_,rfl⟩
   | some ad=>exact .inr ⟨ad,cap,rfl,fun j u hu=>by rw[hx] at hu;simp at hu⟩
 · obtain⟨g,o,rfl,hg,hc⟩:=h hx;refine .inr ⟨_,cap,rfl,fun j u hu=>?_⟩;rw[bD,hc j (Qd.1 hu).1,hu]
theorem Sd {l:List Op3} {u:Value} (h:u∈opc l):u.oneCell'=true:=by
 unfold opc at h;obtain⟨x,_,h⟩:=Zq.1 h;simp at h
 rcases h with rfl|rfl|rfl<;>rfl
theorem vO (v:Value) (l:List Op3) (w:World) (h:Row w v l.length (opc l)) (hl:l.length≤1000000) :
 Calls prog 161 #[v] w fun e w'=>∃ v',e=.returned v'∧w'.ownsRow w 144 3 v' l.length (opc l)∧Below w w w':=by
 obtain⟨i0,hi,hz0,hz1,hz2⟩:=info_parts Tryz.infoOperand;rcases Rl h with⟨rfl,c,rfl⟩|⟨ad,c,rfl,hc⟩
 · have hnil:=@Lib.run_eql_slice_nil;go_enter func161,ntmps161
   go_wp2_with fail
   go_ret;exact⟨_,rfl,Xa _ _ _ _,Below.refl _ _⟩
 · have HC:=Hh hc;clear hc;go_enter func161,ntmps161
   have hb0:Below w w (w.alloc (.cells #[] 144)):=br.alloc lr _;have hsrc:eR (w.alloc (.cells #[] 144)) (.slice (some ad) l.length c) l.length (opc l):=.inr ⟨ad,c,rfl,fun j u hu=>(hb0.cell (block_lt_of_cell (HC.out j u hu))).trans (HC.out j u hu)⟩;have HSRC:=Hh hsrc;clear hsrc;have hnil:=fun w=>@Lib.run_eql_slice_nil prog w;go_wp2_with (at_builtin;refine fK rfl _ _ 51 rfl w 144 i0 (.agg #[(0:Int),(0:Int),(0:Int)]) 3 24 underlying51 hi hz0 hz1 hz2 rfl dc _ 0 [] rfl (iI w _ _ 3 lr) _ l.length (opc l) rfl HSRC.out (cG l) (fun u hu=>Sd hu) (by unfold maxLen;omega) om sm ?_)
   intro v' w1 hown hgrow _;have hb:=hb0.grown hgrow sm (by intro q hq;cases hq;exact Qk _);have HOWN:=Hh hown;clear hown hgrow;have HB:=Hh hb;clear hb;go_wp2_with fail
   go_ret;exact⟨_,rfl,HOWN.out,HB.out⟩
theorem lF (s:ByteArray) (v:Value) (l:List Op3) (w:World) (hs:s.size≤maxLen) (h:Row w v l.length (opc l)) (hl:l.length≤1000000) :
 Calls prog 230 #[.string s,v] w fun e w'=>∃ v',e=.returned (.agg #[.string (cH s),v'])∧w'.ownsRow w 144 3 v' l.length (opc l)∧Below w w w':=by
 have HR:=Hh h;clear h;go_enter func230,ntmps230
 go_wp2_with fail
 refine (pB s _ hs).mono ?_;rintro e w1 ⟨rfl,hb⟩;obtain⟨p1,rfl⟩:=aO hb;clear hb;go_wp2_with fail
 refine (vO v l _ ?_ hl).mono ?_
 · exact HR.out.below (bl)
 rintro e w2 ⟨v',rfl,hown,hb⟩;obtain⟨a,c,rfl⟩:=aI hown;have k0:w2.cell? w=some (.string ⟨#[]⟩):=(hb.cell (p:=w) (by first|(simp[go_sem];done)|(simp[go_sem];omega))).trans (by simp[go_sem])
 have k1:w2.cell? ⟨w,1,none⟩=some (.slice none 0 0):=(hb.cell (p:=⟨w,1,none⟩) (by first|(simp[go_sem];done)|(simp[go_sem];omega))).trans (by simp[go_sem])
 have f0:w2.frozen? ⟨w,0,none⟩=false:=(hb.frozen (p:=w) (by first|(simp[go_sem];done)|(simp[go_sem];omega))).trans (by simp[go_sem])
 have f1:w2.frozen? ⟨w,1,none⟩=false:=(hb.frozen (p:=⟨w,1,none⟩) (by first|(simp[go_sem];done)|(simp[go_sem];omega))).trans (by simp[go_sem])
 have hbw:Below w w w2:=(show Below w w _ from bl).trans (hb.mono (by first|(simp[go_sem];done)|(simp[go_sem];omega)))
 have hown2:=aP hown (b':=w.heap.size+1) (by first|(simp[go_sem];done)|(simp[go_sem];omega))
 have HOWN:=Hh hown2;clear hown hown2;have HBW:=Hh hbw;clear hbw hb;go_wp2_with fail
 refine bodyPost_ret (v:=.agg #[.string (cH s),.slice a l.length c]) (by simp[results,results230,go_sem,k0,k1]) rfl ⟨_,rfl,?_,(HBW.out.setCell (p:=w) lr _).setCell (p:=⟨w,1,none⟩) lr _⟩;exact aP (Kb.owns HOWN.out (((Kb.refl w w2).setCell 0 _).setCell 1 _) (gA HOWN.out (k:=w.heap.size) om).symm) om
theorem aGh {p:Prop} (h:p:=by
 rw[←hW];exact Kb.owns HOWN.out ((((Kb.refl w w1).setCell 0 _).setCell 2 _).setCell 3 _) (gA HOWN.out (k:=w.heap.size) om).symm):p:=h
theorem zC (pg:Int) (op:Nat) (mn ex:ByteArray) (v:Value) (al:Bool) (l:List Op3) (page:Nat) (i:Nat) (w:World) (hp1:3≤page) (hp2:page≤4) (hrow:Row w v l.length (opc l)) (hl:l.length≤3) (hmn:cH mn=mn) (hml:mn.size≤100) (hxl:ex.size≤100)
 (hi:pM l (4,2,0)=i) (hil:i<l.length) (hjp:(mn.toList == [74,80])=false) :
 Calls prog 228 #[.agg #[pg,.int .u8 op,.string mn,v,.string ex,.bool al],page] w fun e w'=>∃ v',e=.returned (.tuple #[.agg #[page,.int .u8 op,.string mn,v',.string (⟨#[100]⟩++ex),.bool al],.bool true])∧WRow w' w v' l.length (opc (l.set i (5,(page:Int) - 3+5,0)))∧Below w w w':=by
 have hmk:=fun W h=>lF mn v l W (by unfold maxLen;omega) h om;rw[hmn] at hmk;have hix:=fun v W h=>vB v l 4 2 0 W h om;rw[hi] at hix;have HMK:=Hh hmk;clear hmk hmn;have HIX:=Hh hix;clear hix hi;have HROW:=Hh hrow;obtain⟨a0,c0,rfl,hc0,_⟩:=hrow;go_enter func228,ntmps228
 go_wp2_with fail
 refine (HMK.out _ (HROW.out.below (bl))).mono ?_;rintro e w1 ⟨v1,rfl,hown,hb⟩;obtain⟨a1,c1,rfl⟩:=aI hown;have h0:=aB (aE (aE (aF w (.cells #[pg,.int .u8 op,.string mn,.slice a0 l.length c0,.string ex,.bool al] 211)))) hb (by simp;omega);have h1:=aB (aE (aF (w.alloc (.cells #[pg,.int .u8 op,.string mn,.slice a0 l.length c0,.string ex,.bool al] 211)) (.cells #[(0:Int),.int .u8 0,(),zz,(),.bool false] 211))) hb sm;have h2:=aB (aF ((w.alloc (.cells #[pg,.int .u8 op,.string mn,.slice a0 l.length c0,.string ex,.bool al] 211)).alloc (.cells #[(0:Int),.int .u8 0,(),zz,(),.bool false] 211)) (.cells #[(4:Int),(2:Int),(0:Int)] 144)) hb sm;simp only[Qa] at h1 h2;have hown1:=aP hown (b':=w.heap.size+1+1+1) sm;have hbw:Below w w w1:=(show Below w w _ from bl).trans (hb.mono (by simp;omega));have H0:=Hh h0;have H1:=Hh h1;have H2:=Hh h2;have HOWN:=Hh hown1;have HBW:=Hh hbw;obtain⟨⟨k0,k1,k2,k3,k4,k5⟩,f0,f1,f2,f3,f4,f5⟩:=aN h0;obtain⟨m0,m1,m2,_,_,_⟩:=bE h2;clear hown hown1 hb h0 h1 h2 hbw;go_wp2_with fail
 obtain⟨W,hW⟩:∃ W,((w1.setCell w page).setCell ⟨w,2,none⟩ (.string mn)).setCell ⟨w,3,none⟩ (.slice a1 l.length c1)=W:=⟨_,rfl⟩;rw[hW];have hownW:W.ownsRow (w.heap.size+1+1+1) 144 3 (.slice a1 l.length c1) l.length (opc l):=by
  exact aGh
 have g0:W.heap[w.heap.size]? = some (.cells #[page,.int .u8 op,.string mn,.slice a1 l.length c1,.string ex,.bool al] 211 (0,0)):=by rw[←hW];exact aG (aG (aG H0.out))
 have g1:=aD (aD (aD H1.out (b:=w.heap.size) (i:=0) (v:=.int .i64 page) om) (b:=w.heap.size) (i:=2) (v:=.string mn) om) (b:=w.heap.size) (i:=3) (v:=.slice a1 l.length c1) om;have g2:=aD (aD (aD H2.out (b:=w.heap.size) (i:=0) (v:=.int .i64 page) om) (b:=w.heap.size) (i:=2) (v:=.string mn) om) (b:=w.heap.size) (i:=3) (v:=.slice a1 l.length c1) om;rw[hW] at g1 g2;have hbW:Below w w W:=by rw[←hW];exact ((HBW.out.setCell (p:=w) lr _).setCell (p:=⟨w,2,none⟩) lr _).setCell (p:=⟨w,3,none⟩) lr _
 have hlW:=aA g2;clear hW HOWN HBW H0 H1 H2 k0 k1 k2 k3 k4 k5 f0 f1 f2 f3 f4 f5 m0 m1 m2;refine (HIX.out _ _ (Row.of_owns hownW)).mono ?_;rintro e w2 ⟨rfl,hb2⟩;have hown2:=iZ hownW hb2;have h0:=aB g0 hb2 om;have h1:=aB g1 hb2 om;have h2:=aB g2 hb2 om;have hbw:=hbW.trans (hb2.mono hbW.size);have hl2:=aA h2;clear hownW hb2 g0 g1 g2 hbW hlW;have hi0:(0:Int)≤(i:Int):=om
 have hi1:(i:Int)<(l.length:Int):=om
 obtain⟨a1',c1',ha1,_,hcells⟩:=(WRow.of_owns hown2).op;cases ha1
 obtain⟨g,o,rfl,hg0,hg1,hcells⟩:=hcells (by intro e;rw[e] at hil;exact absurd hil (Qw _))
 obtain⟨x,hx⟩:∃ x,l[i]? = some x:=⟨_,Qb hil⟩;obtain⟨d0,d1,d2,q0,q1,q2⟩:=hcells i x hx;obtain⟨⟨k0,k1,k2,k3,k4,k5⟩,f0,f1,f2,f3,f4,f5⟩:=aN h0;obtain⟨⟨r0,r1,r2,r3,r4,r5⟩,e0,e1,e2,e3,e4,e5⟩:=aN h1;have HX:=Hh hx;clear hx;have HOWN2:=Hh hown2;clear hown2;have HBW:=Hh hbw;clear hbw;clear hcells h0 h1 h2;have n1:(g=w.heap.size)=False:=by simp;omega
 have n2:(w.heap.size=g)=False:=by simp;omega
 go_wp2_with fail
 refine bodyPost_ret (v:=.tuple #[.agg #[page,.int .u8 op,.string mn,.slice (some ⟨g,o,none⟩) l.length c1,.string (⟨#[100]⟩++ex),.bool al],.bool true]) (by simp[results,results228,go_sem,r0,r1,r2,r3,r4,r5]) rfl ⟨_,rfl,?_,?_⟩
 · have hw:=WRow.setO (x:=(5,(page:Int) - 3+5,0)) (WRow.of_owns HOWN2.out) hil;exact ((hw.kb ((Kb.refl w _).setCell 4 _) om).kb (((((((Kb.refl (w.heap.size+1) _).setCell 0 _).setCell 1 _).setCell 2 _).setCell 3 _).setCell 4 _).setCell 5 _) om).mono om
 · have hb9:=HBW.out;with_reducible repeat (refine Below.setCell ?_ (by first|exact Qk _|exact Xn _|(show w.heap.size≤g;omega)) _)
   exact hb9
def eW (reg:Int) (o:Op3):Op3:=(cB reg o).getD o
def eC (reg:Int) (o:Op3):Bool:=(cB reg o).isSome
theorem eQ {p:Op3→Bool} {l:List Op3} {k:Nat} {x:Op3} (h:l[k]? = some x):(l.take (k+1)).any p=((l.take k).any p || p x):=by
 rw[Qo,h,Zu];simp
theorem aGi {p:Prop} (h:p:=by
 have hb9:=HBW.out;refine Below.alloc ?_ (by rw[setCell_size,setCell_size,setCell_size];omega) _;with_reducible repeat (refine Below.setCell ?_ (by show w.heap.size≤g;omega) _)
 exact hb9):p:=h
theorem wO (pg:Int) (op:Nat) (mn ex:ByteArray) (v:Value) (al:Bool) (l:List Op3) (page:Nat) (i:Int) (w:World) (hp1:3≤page) (hp2:page≤4) (hrow:Row w v l.length (opc l)) (hl:l.length≤3) (hmn:cH mn=mn) (hml:mn.size≤100)
 (hi:pM l (4,2,0)=i) (hc:i=-1∨(∃ k:Nat,i=k∧k≤3)∧(mn.toList == [74,80])=true) :
 Calls prog 228 #[.agg #[pg,.int .u8 op,.string mn,v,.string ex,.bool al],page] w fun e w'=>∃ x,e=.returned (.tuple #[x,.bool (op != 235 && l.any (eC ((page:Int) - 3+5)))])∧(op=235∧x=cP ent0 (.slice none 0 0)∨op≠235∧∃ v',x=.agg #[page,.int .u8 op,.string mn,v',.string ex,.bool al]∧WRow w' w v' l.length (opc (l.map (eW ((page:Int) - 3+5)))))∧Below w w w':=by
 have hmk:=fun W h=>lF mn v l W (by unfold maxLen;omega) h om;rw[hmn] at hmk;have hix:=fun v W h=>vB v l 4 2 0 W h om;rw[hi] at hix;have HMK:=Hh hmk;clear hmk hmn;have HIX:=Hh hix;clear hix hi;have HROW:=Hh hrow;obtain⟨a0,c0,rfl,hc0,_⟩:=hrow;go_enter func228,ntmps228
 go_wp2_with fail
 refine (HMK.out _ (HROW.out.below (bl))).mono ?_;rintro e w1 ⟨v1,rfl,hown,hb⟩;obtain⟨a1,c1,rfl⟩:=aI hown;have h0:=aB (aE (aE (aF w (.cells #[pg,.int .u8 op,.string mn,.slice a0 l.length c0,.string ex,.bool al] 211)))) hb (by simp;omega);have h1:=aB (aE (aF (w.alloc (.cells #[pg,.int .u8 op,.string mn,.slice a0 l.length c0,.string ex,.bool al] 211)) (.cells #[(0:Int),.int .u8 0,(),zz,(),.bool false] 211))) hb sm;have h2:=aB (aF ((w.alloc (.cells #[pg,.int .u8 op,.string mn,.slice a0 l.length c0,.string ex,.bool al] 211)).alloc (.cells #[(0:Int),.int .u8 0,(),zz,(),.bool false] 211)) (.cells #[(4:Int),(2:Int),(0:Int)] 144)) hb sm;simp only[Qa] at h1 h2;have hown1:=aP hown (b':=w.heap.size+1+1+1) sm;have hbw:Below w w w1:=(show Below w w _ from bl).trans (hb.mono (by simp;omega));have H0:=Hh h0;have H1:=Hh h1;have H2:=Hh h2;have HOWN:=Hh hown1;have HBW:=Hh hbw;obtain⟨⟨k0,k1,k2,k3,k4,k5⟩,f0,f1,f2,f3,f4,f5⟩:=aN h0;obtain⟨m0,m1,m2,_,_,_⟩:=bE h2;clear hown hown1 hb h0 h1 h2 hbw;go_wp2_with fail
 obtain⟨W,hW⟩:∃ W,((w1.setCell w page).setCell ⟨w,2,none⟩ (.string mn)).setCell ⟨w,3,none⟩ (.slice a1 l.length c1)=W:=⟨_,rfl⟩;rw[hW];have hownW:W.ownsRow (w.heap.size+1+1+1) 144 3 (.slice a1 l.length c1) l.length (opc l):=by
  exact aGh
 have g0:W.heap[w.heap.size]? = some (.cells #[page,.int .u8 op,.string mn,.slice a1 l.length c1,.string ex,.bool al] 211 (0,0)):=by rw[←hW];exact aG (aG (aG H0.out))
 have g1:=aD (aD (aD H1.out (b:=w.heap.size) (i:=0) (v:=.int .i64 page) om) (b:=w.heap.size) (i:=2) (v:=.string mn) om) (b:=w.heap.size) (i:=3) (v:=.slice a1 l.length c1) om;have g2:=aD (aD (aD H2.out (b:=w.heap.size) (i:=0) (v:=.int .i64 page) om) (b:=w.heap.size) (i:=2) (v:=.string mn) om) (b:=w.heap.size) (i:=3) (v:=.slice a1 l.length c1) om;rw[hW] at g1 g2;have hbW:Below w w W:=by rw[←hW];exact ((HBW.out.setCell (p:=w) lr _).setCell (p:=⟨w,2,none⟩) lr _).setCell (p:=⟨w,3,none⟩) lr _
 have hlW:=aA g2;clear hW HOWN HBW H0 H1 H2 k0 k1 k2 k3 k4 k5 f0 f1 f2 f3 f4 f5 m0 m1 m2;refine (HIX.out _ _ (Row.of_owns hownW)).mono ?_;rintro e w2 ⟨rfl,hb2⟩;have hown2:=iZ hownW hb2;have h0:=aB g0 hb2 om;have h1:=aB g1 hb2 om;have h2:=aB g2 hb2 om;have hbw:=hbW.trans (hb2.mono hbW.size);have hl2:=aA h2;clear hownW hb2 g0 g1 g2 hbW hlW;have hn1:w.heap.size+1+1<w2.heap.size:=hl2;obtain⟨⟨k0,k1,k2,k3,k4,k5⟩,f0,f1,f2,f3,f4,f5⟩:=aN h0;have HR2:=Hh (WRow.of_owns hown2);have H0:=Hh h0;have H1:=Hh h1;have H2:=Hh h2;have HBW:=Hh hbw;clear hown2 h0 h1 h2 hbw;rcases hc with rfl|⟨⟨ki,rfl,hki⟩,hjp⟩;all_goals
  go_wp2_with fail
  go_loopw [9,55] (fun ch i wr=>∃ k:Nat,k≤l.length∧i=.int .i64 k∧ch=.bool ((l.take k).any (eC ((page:Int) - 3+5)))∧Hid (WRow wr (w.heap.size+1+1+1) (.slice a1 l.length c1) l.length (opc (lkL (eW ((page:Int) - 3+5)) l k))) ∧
   Hid (wr.heap[w.heap.size]? = some (.cells #[page,.int .u8 op,.string mn,.slice a1 l.length c1,.string ex,.bool al] 211 (0,0))) ∧
   Hid (wr.heap[w.heap.size+1]? = some (.cells #[(0:Int),.int .u8 0,(),zz,(),.bool false] 211 (0,0))) ∧
   Hid (wr.heap[w.heap.size+1+1]? = some (.cells #[(4:Int),(2:Int),(0:Int)] 144 (0,0)))∧Hid (Below w w wr)) (fun _ i _=>l.length - (intOf i).toNat)
  case atStart=>exact⟨0,Qi _,rfl,rfl,Hh HR2.out,Hh H0.out,Hh H1.out,Hh H2.out,Hh HBW.out⟩
  case round =>
   clear k0 k1 k2 k3 k4 k5 f0 f1 f2 f3 f4 f5 HR2 H0 H1 H2 HBW;obtain⟨k,hk,rfl,rfl,HROW,HB0,HB1,HB2,HBW⟩:=hrel;have hn2:w.heap.size+1+1<wr.heap.size:=aA HB2.out;have hn3:w.heap.size<wr.heap.size:=om
   have hn4:w.heap.size+1<wr.heap.size:=om
   by_cases hlt:k<l.length
   · obtain⟨⟨x0,x1,x2⟩,hx⟩:∃ x,l[k]? = some x:=⟨_,Qb hlt⟩;have hlk:=nF (f:=eW ((page:Int) - 3+5)) hx;have hlen:=bY (eW ((page:Int) - 3+5)) l k;have hrw:=HROW.out;rw[←hlen] at hrw;obtain⟨a1',c1',ha1,_,hcells⟩:=hrw.op;rw[hlen] at ha1;cases ha1
     obtain⟨g,o,rfl,hg0,hg1,hcells⟩:=hcells (by intro e;rw[e] at hlen;simp at hlen;omega);obtain⟨d0,d1,d2,q0,q1,q2⟩:=hcells k _ hlk;dsimp only at d0 d1 d2;clear hcells hrw hlk hlen;obtain⟨⟨k0,k1,k2,k3,k4,k5⟩,f0,f1,f2,f3,f4,f5⟩:=aN HB0.out;obtain⟨m0,m1,m2,_,_,_⟩:=bE HB2.out;have HX:=Hh hx;clear hx;have hi0:(0:Int)≤(k:Int):=om
     have hi1:(k:Int)<(l.length:Int):=om
     by_cases e0:x0=4
     · subst e0;by_cases e1:x1=2
       · subst e1;by_cases e2:x2=0
         · subst e2;have hy:cB ((page:Int) - 3+5) (4,2,0)=some (4,(page:Int) - 3+5,0):=by simp[cB]
           have H1:=Hh (kG (f:=eW ((page:Int) - 3+5)) HX.out (y:=(4,(page:Int) - 3+5,0)) (by unfold eW;rw[hy];rfl));have H2:=Hh (eQ (p:=eC ((page:Int) - 3+5)) HX.out);have H3:Hid (eC ((page:Int) - 3+5) (4,2,0)=true):=Hh (by unfold eC;rw[hy];rfl);clear hy;go_wp2_with fail
           go_roundw
           case rel =>
            refine⟨k+1,om,by go_num,by rw[H2.out,H3.out,Bool.or_true],Hh ?_,Hh ?_,Hh ?_,Hh ?_,Hh ?_⟩
            · have hr:=HROW.out;rw[←bY (eW ((page:Int) - 3+5)) l k] at hr;have hw:=WRow.setO (x:=(4,(page:Int) - 3+5,0)) hr (by rw[bY];exact hlt);rw[H1.out,bY] at hw;exact hw.below (bl)
            · exact aE (aD (aD (aD HB0.out om) om) om)
            · exact aE (aD (aD (aD HB1.out om) om) om)
            · exact aE (aD (aD (aD HB2.out om) om) om)
            · exact aGi
           case measure=>simp[intOf];omega
         · have hy:cB ((page:Int) - 3+5) (4,2,x2)=none:=by simp[cB,e2]
           have H1:=Hh (cJ (f:=eW ((page:Int) - 3+5)) HX.out (by unfold eW;rw[hy];rfl));have H2:=Hh (eQ (p:=eC ((page:Int) - 3+5)) HX.out);have H3:Hid (eC ((page:Int) - 3+5) (4,2,x2)=false):=Hh (by unfold eC;rw[hy];rfl);clear hy;go_wp2_with fail
           go_roundw
           case rel=>exact⟨k+1,om,by go_num,by rw[H2.out,H3.out,Bool.or_false],Hh (by rw[←H1.out];exact HROW.out.below (bl)),Hh (aE HB0.out),Hh (aE HB1.out),Hh (aE HB2.out),Hh (HBW.out.alloc om _)⟩
           case measure=>simp[intOf];omega
       · have hy:cB ((page:Int) - 3+5) (4,x1,x2)=none:=by simp[cB,e1]
         have H1:=Hh (cJ (f:=eW ((page:Int) - 3+5)) HX.out (by unfold eW;rw[hy];rfl));have H2:=Hh (eQ (p:=eC ((page:Int) - 3+5)) HX.out);have H3:Hid (eC ((page:Int) - 3+5) (4,x1,x2)=false):=Hh (by unfold eC;rw[hy];rfl);clear hy;go_wp2_with fail
         go_roundw
         case rel=>exact⟨k+1,om,by go_num,by rw[H2.out,H3.out,Bool.or_false],Hh (by rw[←H1.out];exact HROW.out.below (bl)),Hh (aE HB0.out),Hh (aE HB1.out),Hh (aE HB2.out),Hh (HBW.out.alloc om _)⟩
         case measure=>simp[intOf];omega
     · by_cases e3:x0=3
       · subst e3;by_cases e1:x1=2
         · subst e1;by_cases e2:x2=0
           · subst e2;have hy:cB ((page:Int) - 3+5) (3,2,0)=some (3,(page:Int) - 3+5,0):=by simp[cB]
             have H1:=Hh (kG (f:=eW ((page:Int) - 3+5)) HX.out (y:=(3,(page:Int) - 3+5,0)) (by unfold eW;rw[hy];rfl));have H2:=Hh (eQ (p:=eC ((page:Int) - 3+5)) HX.out);have H3:Hid (eC ((page:Int) - 3+5) (3,2,0)=true):=Hh (by unfold eC;rw[hy];rfl);clear hy;go_wp2_with fail
             go_roundw
             case rel =>
              refine⟨k+1,om,by go_num,by rw[H2.out,H3.out,Bool.or_true],Hh ?_,Hh ?_,Hh ?_,Hh ?_,Hh ?_⟩
              · have hr:=HROW.out;rw[←bY (eW ((page:Int) - 3+5)) l k] at hr;have hw:=WRow.setO (x:=(3,(page:Int) - 3+5,0)) hr (by rw[bY];exact hlt);rw[H1.out,bY] at hw;exact hw.below (bl)
              · exact aE (aD (aD (aD HB0.out om) om) om)
              · exact aE (aD (aD (aD HB1.out om) om) om)
              · exact aE (aD (aD (aD HB2.out om) om) om)
              · exact aGi
             case measure=>simp[intOf];omega
           · have hy:cB ((page:Int) - 3+5) (3,2,x2)=none:=by simp[cB,e2]
             have H1:=Hh (cJ (f:=eW ((page:Int) - 3+5)) HX.out (by unfold eW;rw[hy];rfl));have H2:=Hh (eQ (p:=eC ((page:Int) - 3+5)) HX.out);have H3:Hid (eC ((page:Int) - 3+5) (3,2,x2)=false):=Hh (by unfold eC;rw[hy];rfl);clear hy;go_wp2_with fail
             go_roundw
             case rel=>exact⟨k+1,om,by go_num,by rw[H2.out,H3.out,Bool.or_false],Hh (by rw[←H1.out];exact HROW.out.below (bl)),Hh (aE HB0.out),Hh (aE HB1.out),Hh (aE HB2.out),Hh (HBW.out.alloc om _)⟩
             case measure=>simp[intOf];omega
         · have hy:cB ((page:Int) - 3+5) (3,x1,x2)=none:=by simp[cB,e1]
           have H1:=Hh (cJ (f:=eW ((page:Int) - 3+5)) HX.out (by unfold eW;rw[hy];rfl));have H2:=Hh (eQ (p:=eC ((page:Int) - 3+5)) HX.out);have H3:Hid (eC ((page:Int) - 3+5) (3,x1,x2)=false):=Hh (by unfold eC;rw[hy];rfl);clear hy;go_wp2_with fail
           go_roundw
           case rel=>exact⟨k+1,om,by go_num,by rw[H2.out,H3.out,Bool.or_false],Hh (by rw[←H1.out];exact HROW.out.below (bl)),Hh (aE HB0.out),Hh (aE HB1.out),Hh (aE HB2.out),Hh (HBW.out.alloc om _)⟩
           case measure=>simp[intOf];omega
       · by_cases e4:x0=1
         · subst e4;by_cases e5:x1=4
           · subst e5;have hy:cB ((page:Int) - 3+5) (1,4,x2)=some (2,2*((page:Int) - 3),0):=by simp[cB]
             have H1:=Hh (kG (f:=eW ((page:Int) - 3+5)) HX.out (y:=(2,2*((page:Int) - 3),0)) (by unfold eW;rw[hy];rfl));have H2:=Hh (eQ (p:=eC ((page:Int) - 3+5)) HX.out);have H3:Hid (eC ((page:Int) - 3+5) (1,4,x2)=true):=Hh (by unfold eC;rw[hy];rfl);clear hy;go_wp2_with fail
             go_roundw
             case rel =>
              refine⟨k+1,om,by go_num,by rw[H2.out,H3.out,Bool.or_true],Hh ?_,Hh ?_,Hh ?_,Hh ?_,Hh ?_⟩
              · have hr:=HROW.out;rw[←bY (eW ((page:Int) - 3+5)) l k] at hr;have hw:=WRow.setO (x:=(2,2*((page:Int) - 3),0)) hr (by rw[bY];exact hlt);rw[H1.out,bY] at hw;exact hw.below (bl)
              · exact aE (aD (aD (aD HB0.out om) om) om)
              · exact aE (aD (aD (aD HB1.out om) om) om)
              · exact aE (aD (aD (aD HB2.out om) om) om)
              · exact aGi
             case measure=>simp[intOf];omega
           · by_cases e6:x1=5
             · subst e6;have hy:cB ((page:Int) - 3+5) (1,5,x2)=some (2,2*((page:Int) - 3)+5 - 4,0):=by simp[cB]
               have H1:=Hh (kG (f:=eW ((page:Int) - 3+5)) HX.out (y:=(2,2*((page:Int) - 3)+5 - 4,0)) (by unfold eW;rw[hy];rfl));have H2:=Hh (eQ (p:=eC ((page:Int) - 3+5)) HX.out);have H3:Hid (eC ((page:Int) - 3+5) (1,5,x2)=true):=Hh (by unfold eC;rw[hy];rfl);clear hy;go_wp2_with fail
               go_roundw
               case rel =>
                refine⟨k+1,om,by go_num,by rw[H2.out,H3.out,Bool.or_true],Hh ?_,Hh ?_,Hh ?_,Hh ?_,Hh ?_⟩
                · have hr:=HROW.out;rw[←bY (eW ((page:Int) - 3+5)) l k] at hr;have hw:=WRow.setO (x:=(2,2*((page:Int) - 3)+5 - 4,0)) hr (by rw[bY];exact hlt);rw[H1.out,bY] at hw;exact hw.below (bl)
                · exact aE (aD (aD (aD HB0.out om) om) om)
                · exact aE (aD (aD (aD HB1.out om) om) om)
                · exact aE (aD (aD (aD HB2.out om) om) om)
                · exact aGi
               case measure=>simp[intOf];omega
             · have b5:(x1 == 4)=false:=by simpa using e5
               have b6:(x1 == 5)=false:=by simpa using e6
               have hy:cB ((page:Int) - 3+5) (1,x1,x2)=none:=by simp[cB,e5,e6]
               have H1:=Hh (cJ (f:=eW ((page:Int) - 3+5)) HX.out (by unfold eW;rw[hy];rfl));have H2:=Hh (eQ (p:=eC ((page:Int) - 3+5)) HX.out);have H3:Hid (eC ((page:Int) - 3+5) (1,x1,x2)=false):=Hh (by unfold eC;rw[hy];rfl);clear hy;go_wp2_with fail
               go_roundw
               case rel=>exact⟨k+1,om,by go_num,by rw[H2.out,H3.out,Bool.or_false],Hh (by rw[←H1.out];exact HROW.out.below (bl)),Hh (aE HB0.out),Hh (aE HB1.out),Hh (aE HB2.out),Hh (HBW.out.alloc om _)⟩
               case measure=>simp[intOf];omega
         · have b4:(x0 == 1)=false:=by simpa using e4
           have hy:cB ((page:Int) - 3+5) (x0,x1,x2)=none:=by simp[cB,e0,e3,e4]
           have H1:=Hh (cJ (f:=eW ((page:Int) - 3+5)) HX.out (by unfold eW;rw[hy];rfl));have H2:=Hh (eQ (p:=eC ((page:Int) - 3+5)) HX.out);have H3:Hid (eC ((page:Int) - 3+5) (x0,x1,x2)=false):=Hh (by unfold eC;rw[hy];rfl);clear hy;go_wp2_with fail
           go_roundw
           case rel=>exact⟨k+1,om,by go_num,by rw[H2.out,H3.out,Bool.or_false],Hh (by rw[←H1.out];exact HROW.out.below (bl)),Hh (aE HB0.out),Hh (aE HB1.out),Hh (aE HB2.out),Hh (HBW.out.alloc om _)⟩
           case measure=>simp[intOf];omega
   · obtain rfl:k=l.length:=om
     obtain⟨⟨k0,k1,k2,k3,k4,k5⟩,f0,f1,f2,f3,f4,f5⟩:=aN HB0.out;obtain⟨⟨r0,r1,r2,r3,r4,r5⟩,e0,e1,e2,e3,e4,e5⟩:=aN HB1.out;have HANY:Hid ((l.take l.length).any (eC ((page:Int) - 3+5))=l.any (eC ((page:Int) - 3+5))):=Hh (by rw[Qy]);have HR:Hid (WRow wr (w.heap.size+1+1+1) (.slice a1 l.length c1) l.length (opc (l.map (eW ((page:Int) - 3+5))))):=Hh (by have:=HROW.out;rwa [show lkL (eW ((page:Int) - 3+5)) l l.length=l.map (eW ((page:Int) - 3+5)) by unfold lkL;rw[Qy,List.drop_length,Zd]] at this)
     generalize (l.take l.length).any (eC ((page:Int) - 3+5))=ch at *;by_cases h235:op=235
     · have hb:((op:Int) == 235)=true:=by rw[h235];rfl
       have H235:=Hh h235;clear h235;go_wp2_with fail
       refine bodyPost_ret (v:=.tuple #[cP ent0 (.slice none 0 0),.bool false]) (by simp[results,results228,go_sem,r0,r1,r2,r3,r4,r5,ent0]) rfl ⟨_,by rw[H235.out];rfl,.inl ⟨H235.out,rfl⟩,?_⟩
       have hb9:=HBW.out;with_reducible repeat (refine Below.setCell ?_ (by first|exact Qk _|exact Xn _) _)
       exact hb9
     · have hb:((op:Int) == 235)=false:=by rw[Xd];omega
       have H235:=Hh h235;clear h235;go_wp2_with fail
       refine bodyPost_ret (v:=.tuple #[.agg #[page,.int .u8 op,.string mn,.slice a1 l.length c1,.string ex,.bool al],.bool ch]) (by simp[results,results228,go_sem,r0,r1,r2,r3,r4,r5]) rfl ⟨_,by rw[←HANY.out,bne_iff_ne.2 H235.out];rfl,.inr ⟨H235.out,_,rfl,?_⟩,?_⟩
       · exact (HR.out.kb (((((((Kb.refl (w.heap.size+1) _).setCell 0 _).setCell 1 _).setCell 2 _).setCell 3 _).setCell 4 _).setCell 5 _) om).mono om
       · have hb9:=HBW.out;with_reducible repeat (refine Below.setCell ?_ (by first|exact Qk _|exact Xn _) _)
         exact hb9
theorem Ua:∀ op:Fin 256,(qD cbR (op.val/8*8+6)).isSome=true:=by decide +kernel
theorem Ub:∀ r∈cbR,1≤r.args.length:=by decide +kernel
theorem yA {r:Rule} (h:r∈iU):r.args.length≤3:=Vj ⟨r,h⟩
theorem uV {l:List Rule} {op:Nat} {r:Rule} (h:qD l op=some r):r∈l:=Za h
theorem Af (page op:Nat) (w:World) (hp1:5≤page) (hp2:page≤6) (hop:op<256) (hT:TabsA w) :
 Calls prog 229 #[page,.int .u8 op] w fun e w'=>∃ x v,tH page op=some x∧e=.returned (cP x v)∧w'.ownsRow w 144 3 v x.args.length (opc x.args)∧Below w w w':=by
 obtain⟨hq,hs⟩:=aPI ⟨op,hop⟩;dsimp only at hq hs;have hs8:op%8<8:=Nat.mod_lt _ dc;have hqlt:op/8*8+6<256:=om
 obtain⟨r,hr⟩:=Ys.1 (Ua ⟨op,hop⟩);dsimp only at hr;have hrm:=uV hr;have hfp:eB page cbR (op/8*8+6)=some (iQ page (op/8*8+6) r):=by unfold eB;rw[hr];rfl
 have hlen:(iQ page (op/8*8+6) r).args.length=r.args.length:=pO _ _ _;have h1:1≤(iQ page (op/8*8+6) r).args.length:=by rw[hlen];exact Ub r hrm
 have h3:(iQ page (op/8*8+6) r).args.length≤3:=by rw[hlen];exact yA (xB r hrm)
 have HF:Hid (∀ W,TabsA W→Calls prog 227 #[page,.string cbS,.int .u8 ((op/8*8+6:Nat):Int)] W fun e w'=>∃ v ex,e=.returned (.tuple #[.agg #[page,.int .u8 ((op/8*8+6:Nat):Int),.string ⟨(iQ page (op/8*8+6) r).mn.toArray⟩,v,.string ex,.bool (iQ page (op/8*8+6) r).alias],.bool true])∧w'.ownsRow W 144 3 v (iQ page (op/8*8+6) r).args.length (opc (iQ page (op/8*8+6) r).args)∧Below W W w'):=Hh (fun W hT=>by
  have h:=iD page cbR xB cbS Du dc dc (op/8*8+6) hqlt W hT;rw[hfp] at h;exact h.mono fun e w' ⟨v,he,ho,hb⟩=>⟨v,_,he,ho,hb⟩)
 unfold tH;rw[hfp];simp only[Yx];by_cases hs6:op%8=6
 · rw[if_pos hs6];refine (aPa false page op _ _ _ _ _ w hp1 hp2 hq hs hs8 HF (Hh hT) h1 h3 (.inl ⟨rfl,by rw[hs6];rfl⟩)).mono ?_;rintro e w' ⟨v,he,ho,hb⟩;exact⟨_,v,rfl,he,by simp only[List.length_set,Int.sub_add_cancel];exact ho,hb⟩
 · rw[if_neg hs6];have hb6:(((op%8:Nat):Int) == 6)=false:=by rw[Xd];omega
   by_cases hbit:(iQ page (op/8*8+6) r).mn=[66,73,84]
   · rw[if_pos hbit];refine (aPa true page op _ _ _ _ _ w hp1 hp2 hq hs hs8 HF (Hh hT) h1 h3 (.inr ⟨rfl,hb6,by simpa using hbit⟩)).mono ?_;rintro e w' ⟨v,he,ho,hb⟩;exact⟨_,v,rfl,he,by simp only[List.length_set,Int.sub_add_cancel];exact ho,hb⟩
   · rw[if_neg hbit];refine (aPe page op _ _ _ _ _ w hp1 hp2 hq hs hs8 HF (Hh hT) h1 h3 hb6 (by simpa using hbit)).mono ?_;rintro e w' ⟨v,he,ho,hb⟩;exact⟨_,v,rfl,he,by simp only[Qc,List.length_set,Qp,Qz,Int.sub_add_cancel];exact ho,hb⟩
def kU (x:Option Ent × Nat) (w:World) (e:Ending) (w':World):Prop:=∃ v,e=.returned (.tuple #[cP (x.1.getD ent0) v,.int .i64 x.2])∧WRow w' w.heap.size v (x.1.getD ent0).args.length (opc (x.1.getD ent0).args)∧Below w.heap.size w w'
theorem aOI {p:Prop} (h:p:=by
 exact (((WRow.of_owns HOWN.out).kb (((((((Kb.refl (w.heap.size+1) _).setCell 0 _).setCell 1 _).setCell 2 _).setCell 3 _).setCell 4 _).setCell 5 _) om).kb (((((((Kb.refl w _).setCell 0 _).setCell 1 _).setCell 2 _).setCell 3 _).setCell 4 _).setCell 5 _) om).mono om):p:=h
theorem aOH {p:Prop} (h:p:=by
 have hb9:=HBW.out;with_reducible repeat (refine Below.setCell ?_ (by first|exact Qk _|exact Xn _) _)
 exact hb9):p:=h
theorem aBD (op:Nat) (w:World) (hop:op<256) (hT:TabsA w):Calls prog 196 #[(0:Int),.int .u8 op] w (kU (atP 0 op) w):=by
 have hf:=fun W hT=>iD 0 mainR lG qC nZ dc dc op hop W hT;have hat:atP 0 op=(match eB 0 mainR op with|some e=>(some e,1)|none=>(none,2)):=rfl
 rw[hat];have HT:=Hh hT;clear hT hat;cases hx:eB 0 mainR op with
 | none =>
   rw[hx] at hf;have HF:=Hh hf;clear hf hx;go_enter func196,ntmps196
   go_wp2_with fail
   refine (HF.out _ (HT.out.below (bl))).mono ?_;rintro e w1 ⟨v,rfl,hown,hb⟩;obtain⟨a1,c1,rfl⟩:=aI hown;have h0:=aB (aE (aF w (.cells #[(0:Int),.int .u8 0,(),zz,(),.bool false] 211))) hb (by simp;omega);have h1:=aB (aF (w.alloc (.cells #[(0:Int),.int .u8 0,(),zz,(),.bool false] 211)) (.cells #[(0:Int),.int .u8 0,(),zz,(),.bool false] 211)) hb sm;rw[Qa] at h1;have HBW:=Hh ((show Below w w _ from bl).trans (hb.mono (by simp;omega)));obtain⟨⟨k0,k1,k2,k3,k4,k5⟩,f0,f1,f2,f3,f4,f5⟩:=aN h0;obtain⟨⟨r0,r1,r2,r3,r4,r5⟩,e0,e1,e2,e3,e4,e5⟩:=aN h1;clear hown hb h0 h1;simp only[Zt,Option.isSome_none,ent0];go_wp2_with fail
   refine bodyPost_ret (v:=.tuple #[cP ent0 (.slice none 0 0),(2:Int)]) (by simp[results,results196,go_sem,k0,k1,k2,k3,k4,k5,ent0]) rfl ⟨_,rfl,WRow.nil _ _,?_⟩;have hb9:=HBW.out;with_reducible repeat (refine Below.setCell ?_ (by first|exact Qk _|exact Xn _) _)
   exact hb9
 | some E =>
   rw[hx] at hf;simp only[Yy,Option.isSome_some] at hf;have HF:=Hh hf;clear hf hx;obtain⟨p',op',mn,l,ex,al⟩:=E;show Calls prog 196 #[(0:Int),.int .u8 op] w fun e w'=>∃ v,e=.returned (.tuple #[.agg #[p',.int .u8 op',mn,v,ex,.bool al],(1:Int)])∧WRow w' w v l.length (opc l)∧Below w w w'
   dsimp only at HF;go_enter func196,ntmps196
   go_wp2_with fail
   refine (HF.out _ (HT.out.below (bl))).mono ?_;rintro e w1 ⟨v,rfl,hown,hb⟩;obtain⟨a1,c1,rfl⟩:=aI hown;have h0:=aB (aE (aF w (.cells #[(0:Int),.int .u8 0,(),zz,(),.bool false] 211))) hb (by simp;omega);have h1:=aB (aF (w.alloc (.cells #[(0:Int),.int .u8 0,(),zz,(),.bool false] 211)) (.cells #[(0:Int),.int .u8 0,(),zz,(),.bool false] 211)) hb sm;rw[Qa] at h1;have HBW:=Hh ((show Below w w _ from bl).trans (hb.mono (by simp;omega)));have HOWN:=Hh (aP hown (b':=w.heap.size+1+1) sm);obtain⟨⟨k0,k1,k2,k3,k4,k5⟩,f0,f1,f2,f3,f4,f5⟩:=aN h0;obtain⟨⟨r0,r1,r2,r3,r4,r5⟩,e0,e1,e2,e3,e4,e5⟩:=aN h1;clear hown hb h0 h1;go_wp2_with fail
   refine bodyPost_ret (v:=.tuple #[.agg #[p',.int .u8 op',mn,.slice a1 l.length c1,ex,.bool al],(1:Int)]) (by simp[results,results196,go_sem,k0,k1,k2,k3,k4,k5]) rfl ⟨_,rfl,?_,?_⟩
   · exact aOI
   · exact aOH
theorem aBC (op:Nat) (w:World) (hop:op<256) (hT:TabsA w):Calls prog 196 #[(1:Int),.int .u8 op] w (kU (atP 1 op) w):=by
 have hf:=fun W hT=>iD 1 cbR xB cbS Du dc dc op hop W hT;have hat:atP 1 op=(match eB 1 cbR op with|some e=>(some e,1)|none=>(none,0)):=rfl
 rw[hat];have HT:=Hh hT;clear hT hat;cases hx:eB 1 cbR op with
 | none =>
   rw[hx] at hf;have HF:=Hh hf;clear hf hx;go_enter func196,ntmps196
   go_wp2_with fail
   refine (HF.out _ (HT.out.below (bl))).mono ?_;rintro e w1 ⟨v,rfl,hown,hb⟩;obtain⟨a1,c1,rfl⟩:=aI hown;have h0:=aB (aE (aF w (.cells #[(0:Int),.int .u8 0,(),zz,(),.bool false] 211))) hb (by simp;omega);have h1:=aB (aF (w.alloc (.cells #[(0:Int),.int .u8 0,(),zz,(),.bool false] 211)) (.cells #[(0:Int),.int .u8 0,(),zz,(),.bool false] 211)) hb sm;rw[Qa] at h1;have HBW:=Hh ((show Below w w _ from bl).trans (hb.mono (by simp;omega)));obtain⟨⟨k0,k1,k2,k3,k4,k5⟩,f0,f1,f2,f3,f4,f5⟩:=aN h0;obtain⟨⟨r0,r1,r2,r3,r4,r5⟩,e0,e1,e2,e3,e4,e5⟩:=aN h1;clear hown hb h0 h1;simp only[Zt,Option.isSome_none,ent0];go_wp2_with fail
   refine bodyPost_ret (v:=.tuple #[cP ent0 (.slice none 0 0),(0:Int)]) (by simp[results,results196,go_sem,k0,k1,k2,k3,k4,k5,ent0]) rfl ⟨_,rfl,WRow.nil _ _,?_⟩;have hb9:=HBW.out;with_reducible repeat (refine Below.setCell ?_ (by first|exact Qk _|exact Xn _) _)
   exact hb9
 | some E =>
   rw[hx] at hf;simp only[Yy,Option.isSome_some] at hf;have HF:=Hh hf;clear hf hx;obtain⟨p',op',mn,l,ex,al⟩:=E;show Calls prog 196 #[(1:Int),.int .u8 op] w fun e w'=>∃ v,e=.returned (.tuple #[.agg #[p',.int .u8 op',mn,v,ex,.bool al],(1:Int)])∧WRow w' w v l.length (opc l)∧Below w w w'
   dsimp only at HF;go_enter func196,ntmps196
   go_wp2_with fail
   refine (HF.out _ (HT.out.below (bl))).mono ?_;rintro e w1 ⟨v,rfl,hown,hb⟩;obtain⟨a1,c1,rfl⟩:=aI hown;have h0:=aB (aE (aF w (.cells #[(0:Int),.int .u8 0,(),zz,(),.bool false] 211))) hb (by simp;omega);have h1:=aB (aF (w.alloc (.cells #[(0:Int),.int .u8 0,(),zz,(),.bool false] 211)) (.cells #[(0:Int),.int .u8 0,(),zz,(),.bool false] 211)) hb sm;rw[Qa] at h1;have HBW:=Hh ((show Below w w _ from bl).trans (hb.mono (by simp;omega)));have HOWN:=Hh (aP hown (b':=w.heap.size+1+1) sm);obtain⟨⟨k0,k1,k2,k3,k4,k5⟩,f0,f1,f2,f3,f4,f5⟩:=aN h0;obtain⟨⟨r0,r1,r2,r3,r4,r5⟩,e0,e1,e2,e3,e4,e5⟩:=aN h1;clear hown hb h0 h1;go_wp2_with fail
   refine bodyPost_ret (v:=.tuple #[.agg #[p',.int .u8 op',mn,.slice a1 l.length c1,ex,.bool al],(1:Int)]) (by simp[results,results196,go_sem,k0,k1,k2,k3,k4,k5]) rfl ⟨_,rfl,?_,?_⟩
   · exact aOI
   · exact aOH
theorem aBB (op:Nat) (w:World) (hop:op<256) (hT:TabsA w):Calls prog 196 #[(2:Int),.int .u8 op] w (kU (atP 2 op) w):=by
 have hf:=fun W hT=>iD 2 edR Pk edS Pm dc dc op hop W hT;have hat:atP 2 op=(match eB 2 edR op with|some e=>(some e,1)|none=>(none,3)):=rfl
 rw[hat];have HT:=Hh hT;clear hT hat;cases hx:eB 2 edR op with
 | none =>
   rw[hx] at hf;have HF:=Hh hf;clear hf hx;go_enter func196,ntmps196
   go_wp2_with fail
   refine (HF.out _ (HT.out.below (bl))).mono ?_;rintro e w1 ⟨v,rfl,hown,hb⟩;obtain⟨a1,c1,rfl⟩:=aI hown;have h0:=aB (aE (aF w (.cells #[(0:Int),.int .u8 0,(),zz,(),.bool false] 211))) hb (by simp;omega);have h1:=aB (aF (w.alloc (.cells #[(0:Int),.int .u8 0,(),zz,(),.bool false] 211)) (.cells #[(0:Int),.int .u8 0,(),zz,(),.bool false] 211)) hb sm;rw[Qa] at h1;have HBW:=Hh ((show Below w w _ from bl).trans (hb.mono (by simp;omega)));obtain⟨⟨k0,k1,k2,k3,k4,k5⟩,f0,f1,f2,f3,f4,f5⟩:=aN h0;obtain⟨⟨r0,r1,r2,r3,r4,r5⟩,e0,e1,e2,e3,e4,e5⟩:=aN h1;clear hown hb h0 h1;simp only[Zt,Option.isSome_none,ent0];go_wp2_with fail
   refine bodyPost_ret (v:=.tuple #[cP ent0 (.slice none 0 0),(3:Int)]) (by simp[results,results196,go_sem,k0,k1,k2,k3,k4,k5,ent0]) rfl ⟨_,rfl,WRow.nil _ _,?_⟩;have hb9:=HBW.out;with_reducible repeat (refine Below.setCell ?_ (by first|exact Qk _|exact Xn _) _)
   exact hb9
 | some E =>
   rw[hx] at hf;simp only[Yy,Option.isSome_some] at hf;have HF:=Hh hf;clear hf hx;obtain⟨p',op',mn,l,ex,al⟩:=E;show Calls prog 196 #[(2:Int),.int .u8 op] w fun e w'=>∃ v,e=.returned (.tuple #[.agg #[p',.int .u8 op',mn,v,ex,.bool al],(1:Int)])∧WRow w' w v l.length (opc l)∧Below w w w'
   dsimp only at HF;go_enter func196,ntmps196
   go_wp2_with fail
   refine (HF.out _ (HT.out.below (bl))).mono ?_;rintro e w1 ⟨v,rfl,hown,hb⟩;obtain⟨a1,c1,rfl⟩:=aI hown;have h0:=aB (aE (aF w (.cells #[(0:Int),.int .u8 0,(),zz,(),.bool false] 211))) hb (by simp;omega);have h1:=aB (aF (w.alloc (.cells #[(0:Int),.int .u8 0,(),zz,(),.bool false] 211)) (.cells #[(0:Int),.int .u8 0,(),zz,(),.bool false] 211)) hb sm;rw[Qa] at h1;have HBW:=Hh ((show Below w w _ from bl).trans (hb.mono (by simp;omega)));have HOWN:=Hh (aP hown (b':=w.heap.size+1+1) sm);obtain⟨⟨k0,k1,k2,k3,k4,k5⟩,f0,f1,f2,f3,f4,f5⟩:=aN h0;obtain⟨⟨r0,r1,r2,r3,r4,r5⟩,e0,e1,e2,e3,e4,e5⟩:=aN h1;clear hown hb h0 h1;go_wp2_with fail
   refine bodyPost_ret (v:=.tuple #[.agg #[p',.int .u8 op',mn,.slice a1 l.length c1,ex,.bool al],(1:Int)]) (by simp[results,results196,go_sem,k0,k1,k2,k3,k4,k5]) rfl ⟨_,rfl,?_,?_⟩
   · exact aOI
   · exact aOH
theorem Jy (l:List UInt8):(⟨l.toArray⟩:ByteArray).toList=l:=by rw[ByteArray.toList_eq]
theorem vC {l:List Op3} {k:Nat} (h:gU l=some k):pM l (4,2,0)=k∧k<l.length:=by
 unfold gU at h;unfold pM;rw[h];exact⟨rfl,(List.findIdx?_eq_some_iff_getElem.1 h).1⟩
theorem Hw {l:List Op3} (h:gU l=none):pM l (4,2,0)=-1:=by
 unfold gU at h;unfold pM;rw[h]
def aAm (y:Option Ent) (w:World) (e:Ending) (w':World):Prop :=
 ∃ (p:Int) (o:Nat) (m ex:ByteArray) (a:Option Addr) (n c:Nat) (al:Bool),e=.returned (.tuple #[.agg #[.int .i64 p,.int .u8 o,.string m,.slice a n c,.string ex,.bool al],.bool y.isSome]) ∧
  (∀ z,y=some z→p=z.page∧o=z.op∧m=⟨z.mn.toArray⟩∧ex=⟨z.extra.toArray⟩∧al=z.alias∧WRow w' w.heap.size (.slice a n c) z.args.length (opc z.args))∧Below w.heap.size w w'
theorem qE (E:Ent) (page:Nat) (v:Value) (w:World) (hp1:3≤page) (hp2:page≤4) (hrow:Row w v E.args.length (opc E.args)) (hl:E.args.length≤3) (hmn:cH ⟨E.mn.toArray⟩=⟨E.mn.toArray⟩) (hml:E.mn.length≤100) (hxl:E.extra.length≤100) :
 Calls prog 228 #[cP E v,page] w (aAm (fN E page) w):=by
 have hms:(⟨E.mn.toArray⟩:ByteArray).size≤100:=by show E.mn.toArray.size≤100;rw[Qx];exact hml
 have hxs:(⟨E.extra.toArray⟩:ByteArray).size≤100:=by show E.extra.toArray.size≤100;rw[Qx];exact hxl
 unfold fN;dsimp only;by_cases hc:(gU E.args).isSome=true∧E.mn≠[74,80]
 · rw[if_pos hc];obtain⟨k,hk⟩:=Ys.1 hc.1;obtain⟨h1,h2⟩:=vC hk;refine (zC _ _ _ _ _ _ _ page k w hp1 hp2 hrow hl hmn hms hxs h1 h2 (by rw[Jy];simpa using hc.2)).mono ?_;rintro e w' ⟨v',he,ho,hb⟩;have ho2:=ho;obtain⟨a,c,rfl,_⟩:=ho2;refine⟨_,_,_,_,_,_,_,_,he,fun z hz=>?_,hb⟩;cases hz
   refine⟨rfl,rfl,rfl,by apply oU;simp,rfl,?_⟩
   rw[hk];simp only[Yy,List.length_set];exact ho
 · rw[if_neg hc];have hcc:pM E.args (4,2,0)=-1∨(∃ k:Nat,pM E.args (4,2,0)=k∧k≤3)∧((⟨E.mn.toArray⟩:ByteArray).toList == [74,80])=true:=by
    cases hk:gU E.args with
    | none=>exact .inl (Hw hk)
    | some k =>
      obtain⟨h1,h2⟩:=vC hk;right
      refine⟨⟨k,h1,om⟩,?_⟩
      rw[Jy]
      have:E.mn=[74,80]:=Decidable.of_not_not (fun h=>hc ⟨by rw[hk];rfl,h⟩)
      rw[this];rfl
   refine (wO _ E.op _ _ _ _ _ page _ w hp1 hp2 hrow hl hmn hms rfl hcc).mono ?_;rintro e w' ⟨x,he,hx,hb⟩;have hany:E.args.any (eC ((page:Int) - 3+5))=E.args.any (fun o=>(cB ((page:Int) - 3+5) o).isSome):=rfl;rcases hx with⟨h235,rfl⟩|⟨h235,v',rfl,ho⟩
   · rw[if_pos h235];exact⟨0,0,⟨#[]⟩,⟨#[]⟩,none,0,0,false,by rw[he,h235];rfl,(fun z hz=>by cases hz),hb⟩
   · rw[if_neg h235];have ho2:=ho;obtain⟨a,c,rfl,_⟩:=ho2;rw[bne_iff_ne.2 h235,Yp,hany] at he;by_cases ha:E.args.any (fun o=>(cB ((page:Int) - 3+5) o).isSome)=true
     · rw[if_pos ha];rw[ha] at he;refine⟨_,_,_,_,_,_,_,_,he,fun z hz=>?_,hb⟩;cases hz
       refine⟨rfl,rfl,rfl,rfl,rfl,?_⟩;rw[Qs];exact ho
     · rw[if_neg ha];rw[show E.args.any (fun o=>(cB ((page:Int) - 3+5) o).isSome)=false from (Bool.not_eq_true _).mp ha] at he
       exact⟨_,_,_,_,_,_,_,_,he,(fun z hz=>by cases hz),hb⟩
theorem Ch:∀ r∈mainR,cH ⟨r.mn.toArray⟩=⟨r.mn.toArray⟩∧r.mn.length≤100:=by decide +kernel
theorem vG {page op:Nat} {E:Ent} (h:eB page mainR op=some E):cH ⟨E.mn.toArray⟩=⟨E.mn.toArray⟩∧E.mn.length≤100∧E.args.length≤3∧E.extra.length≤100:=by
 unfold eB at h;obtain⟨r,hr,rfl⟩:=Qr.1 h;have hm:=uV hr;obtain⟨h1,h2⟩:=Ch r hm;have h3:=yA (lG r hm);refine⟨h1,h2,by rw[pO];exact h3,?_⟩
 have:=oX r.bits op r.args
 show (xOf r.bits op r.args).length≤100
 omega
theorem aNr {p:Prop} (h:p:=by
 rw[←hW];exact Row.of_owns (Kb.owns HOWN.out (((((((Kb.refl (w.heap.size+1) _).setCell 0 _).setCell 1 _).setCell 2 _).setCell 3 _).setCell 4 _).setCell 5 _) (gA HOWN.out (k:=w.heap.size+1) om).symm)):p:=h
theorem aNq {p:Prop} (h:p:=by
 rw[←hW];exact aD (aD (aD (aD (aD (aD H0.out om) om) om) om) om) om):p:=h
theorem aMj {p:Prop} (h:p:=by
 rw[←hW];have hb9:=HBW.out;with_reducible repeat (refine Below.setCell ?_ (by exact Xn _) _)
 exact hb9):p:=h
theorem aPx (page op:Nat) (z:Int) (hp:page=3∧z=3∨page=4∧z=4) (w:World) (hop:op<256) (hT:TabsA w):Calls prog 196 #[z,.int .u8 op] w (kU (atP page op) w):=by
 have hp3:3≤page∧page≤4:=om
 have hf:=fun W hT=>iD page mainR lG qC nZ dc dc op hop W hT;have hat:atP page op=(if op=0xCB then (none,2) else match (eB page mainR op).bind (fN · page) with|some e=>(some e,1)|none=>(none,0)):=by rcases hp with⟨rfl,_⟩|⟨rfl,_⟩<;>rfl
 rw[hat];have HT:=Hh hT;clear hT hat;by_cases hcb:op=0xCB
 · subst hcb;rw[if_pos rfl];rcases hp with⟨rfl,rfl⟩|⟨rfl,rfl⟩;all_goals
    go_enter func196,ntmps196
    go_wp2_with fail
    refine bodyPost_ret (v:=.tuple #[cP ent0 (.slice none 0 0),(2:Int)]) (by simp[results,results196,go_sem,ent0]) rfl ⟨_,rfl,WRow.nil _ _,bl⟩
 rw[if_neg hcb];have hbcb:((op:Int) == 203)=false:=by rw[Xd];omega
 clear hcb;cases hx:eB page mainR op with
 | none =>
   rw[hx] at hf;have HF:=Hh hf;clear hf hx;rcases hp with⟨rfl,rfl⟩|⟨rfl,rfl⟩;all_goals
    go_enter func196,ntmps196
    go_wp2_with fail
    refine (HF.out _ (HT.out.below (bl))).mono ?_;rintro e w1 ⟨v,rfl,hown,hb⟩;obtain⟨a1,c1,rfl⟩:=aI hown;have h0:=aB (aE (aF w (.cells #[(0:Int),.int .u8 0,(),zz,(),.bool false] 211))) hb (by simp;omega);have h1:=aB (aF (w.alloc (.cells #[(0:Int),.int .u8 0,(),zz,(),.bool false] 211)) (.cells #[(0:Int),.int .u8 0,(),zz,(),.bool false] 211)) hb sm;rw[Qa] at h1;have HBW:=Hh ((show Below w w _ from bl).trans (hb.mono (by simp;omega)));obtain⟨⟨k0,k1,k2,k3,k4,k5⟩,f0,f1,f2,f3,f4,f5⟩:=aN h0;obtain⟨⟨r0,r1,r2,r3,r4,r5⟩,e0,e1,e2,e3,e4,e5⟩:=aN h1;clear hown hb h0 h1;simp only[Zt,Option.isSome_none,ent0];go_wp2_with fail
    refine bodyPost_ret (v:=.tuple #[cP ent0 (.slice none 0 0),(0:Int)]) (by simp[results,results196,go_sem,k0,k1,k2,k3,k4,k5,ent0]) rfl ⟨_,rfl,WRow.nil _ _,?_⟩;have hb9:=HBW.out;with_reducible repeat (refine Below.setCell ?_ (by first|exact Qk _|exact Xn _) _)
    exact hb9
 | some E =>
   rw[hx] at hf;obtain⟨hu,hml,hal,hel⟩:=vG hx;simp only[Yy,Option.isSome_some] at hf;have hidx:=fun v W hr=>qE E page v W hp3.1 hp3.2 hr hal hu hml hel;show Calls prog 196 #[z,.int .u8 op] w (kU (match fN E page with|some e=>(some e,1)|none=>(none,0)) w)
   obtain⟨Y,hY⟩:∃ Y,fN E page=Y:=⟨_,rfl⟩;rw[hY] at hidx ⊢;have HF:=Hh hf;have HI:=Hh hidx;clear hf hx hidx hY hu hml hal hel;obtain⟨p',op',mn,l,ex,al⟩:=E;dsimp only at HF HI;unfold cP at HI HF;dsimp only at HF HI;cases Y with
   | none =>
     dsimp only;rcases hp with⟨rfl,rfl⟩|⟨rfl,rfl⟩;all_goals
      go_enter func196,ntmps196
      go_wp2_with fail
      refine (HF.out _ (HT.out.below (bl))).mono ?_;rintro e w1 ⟨v,rfl,hown,hb⟩;obtain⟨a1,c1,rfl⟩:=aI hown;have h0:=aB (aE (aF w (.cells #[(0:Int),.int .u8 0,(),zz,(),.bool false] 211))) hb (by simp;omega);have h1:=aB (aF (w.alloc (.cells #[(0:Int),.int .u8 0,(),zz,(),.bool false] 211)) (.cells #[(0:Int),.int .u8 0,(),zz,(),.bool false] 211)) hb sm;rw[Qa] at h1;have HBW:=Hh ((show Below w w _ from bl).trans (hb.mono (by simp;omega)));have HOWN:=Hh (aP hown (b':=w.heap.size+1+1) sm);have H0:=Hh h0;have H1:=Hh h1;obtain⟨⟨r0,r1,r2,r3,r4,r5⟩,e0,e1,e2,e3,e4,e5⟩:=aN h1;clear hown hb h0 h1;go_wp2_with fail
      obtain⟨W,hW⟩:∃ W,((((((w1.setCell ⟨w+1,0,none⟩ p').setCell ⟨w+1,1,none⟩ (.int .u8 op')).setCell ⟨w+1,2,none⟩ mn).setCell ⟨w+1,3,none⟩ (.slice a1 l.length c1)).setCell ⟨w+1,4,none⟩ ex).setCell ⟨w+1,5,none⟩ (.bool al))=W:=⟨_,rfl⟩;rw[hW];have hownW:Row W (.slice a1 l.length c1) l.length (opc l):=by
       exact aNr
      have g0:W.heap[w.heap.size]? = some (.cells #[(0:Int),.int .u8 0,(),zz,(),.bool false] 211 (0,0)):=by
       exact aNq
      have g1:W.heap[w.heap.size+1]? = some (.cells #[p',.int .u8 op',mn,.slice a1 l.length c1,ex,.bool al] 211 (0,0)):=by
       rw[←hW];exact aG (aG (aG (aG (aG (aG H1.out)))))
      have hbW:Below w w W:=by
       exact aMj
      have hlW:=aA g1;clear hW HOWN HBW H0 H1 r0 r1 r2 r3 r4 r5 e0 e1 e2 e3 e4 e5;refine (HI.out _ _ hownW).mono ?_;rintro e w2 ⟨pp,oo,mm,xx,aa,nn,cc,ll,rfl,hz,hb2⟩;have h0:=aB g0 hb2 om;have h1:=aB g1 hb2 hlW;have HBW:=Hh (hbW.trans (hb2.mono hbW.size));have HZ:=Hh hz;obtain⟨⟨k0,k1,k2,k3,k4,k5⟩,f0,f1,f2,f3,f4,f5⟩:=aN h0;obtain⟨⟨r0,r1,r2,r3,r4,r5⟩,e0,e1,e2,e3,e4,e5⟩:=aN h1;clear hz g0 g1 hb2 h0 h1 hownW hbW;simp only[Option.isSome_none];go_wp2_with fail
      refine bodyPost_ret (v:=.tuple #[cP ent0 (.slice none 0 0),(0:Int)]) (by simp[results,results196,go_sem,k0,k1,k2,k3,k4,k5,ent0]) rfl ⟨_,rfl,WRow.nil _ _,?_⟩;have hb9:=HBW.out;with_reducible repeat (refine Below.setCell ?_ (by first|exact Qk _|exact Xn _) _)
      exact hb9
   | some E2 =>
     dsimp only;rcases hp with⟨rfl,rfl⟩|⟨rfl,rfl⟩;all_goals
      go_enter func196,ntmps196
      go_wp2_with fail
      refine (HF.out _ (HT.out.below (bl))).mono ?_;rintro e w1 ⟨v,rfl,hown,hb⟩;obtain⟨a1,c1,rfl⟩:=aI hown;have h0:=aB (aE (aF w (.cells #[(0:Int),.int .u8 0,(),zz,(),.bool false] 211))) hb (by simp;omega);have h1:=aB (aF (w.alloc (.cells #[(0:Int),.int .u8 0,(),zz,(),.bool false] 211)) (.cells #[(0:Int),.int .u8 0,(),zz,(),.bool false] 211)) hb sm;rw[Qa] at h1;have HBW:=Hh ((show Below w w _ from bl).trans (hb.mono (by simp;omega)));have HOWN:=Hh (aP hown (b':=w.heap.size+1+1) sm);have H0:=Hh h0;have H1:=Hh h1;obtain⟨⟨r0,r1,r2,r3,r4,r5⟩,e0,e1,e2,e3,e4,e5⟩:=aN h1;clear hown hb h0 h1;go_wp2_with fail
      obtain⟨W,hW⟩:∃ W,((((((w1.setCell ⟨w+1,0,none⟩ p').setCell ⟨w+1,1,none⟩ (.int .u8 op')).setCell ⟨w+1,2,none⟩ mn).setCell ⟨w+1,3,none⟩ (.slice a1 l.length c1)).setCell ⟨w+1,4,none⟩ ex).setCell ⟨w+1,5,none⟩ (.bool al))=W:=⟨_,rfl⟩;rw[hW];have hownW:Row W (.slice a1 l.length c1) l.length (opc l):=by
       exact aNr
      have g0:W.heap[w.heap.size]? = some (.cells #[(0:Int),.int .u8 0,(),zz,(),.bool false] 211 (0,0)):=by
       exact aNq
      have g1:W.heap[w.heap.size+1]? = some (.cells #[p',.int .u8 op',mn,.slice a1 l.length c1,ex,.bool al] 211 (0,0)):=by
       rw[←hW];exact aG (aG (aG (aG (aG (aG H1.out)))))
      have hbW:Below w w W:=by
       exact aMj
      have hlW:=aA g1;clear hW HOWN HBW H0 H1 r0 r1 r2 r3 r4 r5 e0 e1 e2 e3 e4 e5;refine (HI.out _ _ hownW).mono ?_;rintro e w2 ⟨pp,oo,mm,xx,aa,nn,cc,ll,rfl,hz,hb2⟩;have h0:=aB g0 hb2 om;have h1:=aB g1 hb2 hlW;have HBW:=Hh (hbW.trans (hb2.mono hbW.size));have HZ:=Hh hz;obtain⟨⟨k0,k1,k2,k3,k4,k5⟩,f0,f1,f2,f3,f4,f5⟩:=aN h0;obtain⟨⟨r0,r1,r2,r3,r4,r5⟩,e0,e1,e2,e3,e4,e5⟩:=aN h1;clear hz g0 g1 hb2 h0 h1 hownW hbW;simp only[Option.isSome_some];go_wp2_with fail
      refine bodyPost_ret (v:=.tuple #[.agg #[pp,.int .u8 oo,.string mm,.slice aa nn cc,.string xx,.bool ll],(1:Int)]) (by simp[results,results196,go_sem,k0,k1,k2,k3,k4,k5]) rfl ⟨.slice aa nn cc,?_,?_,?_⟩
      · obtain⟨q1,q2,q3,q4,q5,_⟩:=HZ.out E2 rfl;rw[q1,q2,q3,q4,q5];rfl
      · obtain⟨_,_,_,_,_,hr⟩:=HZ.out E2 rfl;exact ((hr.kb (((((((Kb.refl (w.heap.size+1) _).setCell 0 _).setCell 1 _).setCell 2 _).setCell 3 _).setCell 4 _).setCell 5 _) om).kb (((((((Kb.refl w _).setCell 0 _).setCell 1 _).setCell 2 _).setCell 3 _).setCell 4 _).setCell 5 _) om).mono om
      · exact aOH
theorem aPw (page op:Nat) (z:Int) (hp:page=5∧z=5∨page=6∧z=6) (w:World) (hop:op<256) (hT:TabsA w):Calls prog 196 #[z,.int .u8 op] w (kU (atP page op) w):=by
 have hf:=fun W hT=>Af page op W om om hop hT;have hat:atP page op=(tH page op,1):=by rcases hp with⟨rfl,_⟩|⟨rfl,_⟩<;>rfl
 rw[hat];have HT:=Hh hT;clear hT hat;generalize tH page op=Y at *;have HF:=Hh hf;clear hf;rcases hp with⟨rfl,rfl⟩|⟨rfl,rfl⟩;all_goals
  go_enter func196,ntmps196
  go_wp2_with fail
  refine (HF.out _ (HT.out.below (bl))).mono ?_;rintro e w1 ⟨E,v,rfl,rfl,hown,hb⟩;obtain⟨a1,c1,rfl⟩:=aI hown;have h0:=aB (aE (aF w (.cells #[(0:Int),.int .u8 0,(),zz,(),.bool false] 211))) hb (by simp;omega);have HBW:=Hh ((show Below w w _ from bl).trans (hb.mono (by simp;omega)));have HOWN:=Hh (aP hown (b':=w.heap.size+1+1) sm);obtain⟨⟨k0,k1,k2,k3,k4,k5⟩,f0,f1,f2,f3,f4,f5⟩:=aN h0;clear hown hb h0;obtain⟨p',op',mn,l,ex,al⟩:=E;dsimp only at HOWN;go_wp2_with fail
  refine bodyPost_ret (v:=.tuple #[.agg #[p',.int .u8 op',mn,.slice a1 l.length c1,ex,.bool al],(1:Int)]) (by simp[results,results196,go_sem,k0,k1,k2,k3,k4,k5]) rfl ⟨.slice a1 l.length c1,rfl,?_,?_⟩
  · exact ((WRow.of_owns HOWN.out).kb (((((((Kb.refl w _).setCell 0 _).setCell 1 _).setCell 2 _).setCell 3 _).setCell 4 _).setCell 5 _) om).mono om
  · exact aOH
theorem Dw (page op:Nat) (w:World) (hp:page<7) (hop:op<256) (hT:TabsA w):Calls prog 196 #[page,.int .u8 op] w (kU (atP page op) w):=by
 have:page=0∨page=1∨page=2∨page=3∨page=4∨page=5∨page=6:=om
 rcases this with rfl|rfl|rfl|rfl|rfl|rfl|rfl
 · exact aBD op w hop hT
 · exact aBC op w hop hT
 · exact aBB op w hop hT
 · exact aPx 3 op 3 (.inl ⟨rfl,rfl⟩) w hop hT
 · exact aPx 4 op 4 (.inr ⟨rfl,rfl⟩) w hop hT
 · exact aPw 5 op 5 (.inl ⟨rfl,rfl⟩) w hop hT
 · exact aPw 6 op 6 (.inr ⟨rfl,rfl⟩) w hop hT
end
end Go.Proofs.YtoigglljnklhlaaGreatDoor
