/- Joined. -/
import Derived.Test.YtoigglljnklhlaaGreatDoorD21
set_option maxHeartbeats 8000000
set_option maxRecDepth 100000
namespace Go.Proofs.YtoigglljnklhlaaGreatDoor
section
open Go.RowKit Go.Sort
theorem Wx {a b:ByteArray} (h:a≠b):(a.toList == b.toList)=false:=by
 rw[Xd];intro e;rw[ByteArray.toList_eq,ByteArray.toList_eq] at e;exact h (ByteArray.ext (Array.toList_inj.1 e))
theorem eqK (a b:ByteArray):(a.toList == b.toList)=decide (a=b):=by
 by_cases h:a=b
 · subst h;simp
 · rw[Wx h,Qg h]
theorem aHv {α:Type} [DecidableEq α] {l:List α} {j:Nat} {x m:α} (hx:l[j]? = some x) (h:∀ y∈l.take j,y≠m) (hne:x≠m):∀ y∈l.take (j+1),y≠m:=by
 intro y hy;rw[Qo,hx] at hy;rcases Xs.1 hy with h1|h1
 · exact h y h1
 · simp at h1;subst h1;exact hne
theorem aHb {B:Nat} {a w:World} (h:Below B a w) (n:Nat):Below B a (w.drewN n):=⟨h.os,h.tape,h.output,h.size,h.block⟩
end
section
open Go.RowKit Go.Sort
open Go.Proofs.Tryz
def aHE (L:List (List UInt8)):List Value:=L.map fun s=>.string ⟨s.toArray⟩
theorem aHO {w:World} {g:Nat} {T:TypeId} {L:List (List UInt8)} {c:Array Value} (h:w.heap[g]? = some (.cells c T (0,0))) (hc:c.toList=aHE L):Row w (.slice g L.length L.length) L.length (aHE L) :=
 ⟨_,_,rfl,Qk _,fun _=>⟨g,0,rfl,aA h,fun j _=>by
  rw[Lib.cell_of_heap h,Xb,←hc];simp⟩⟩
theorem eqC (X:ByteArray) (l:List UInt8):(X.toList == l)=decide (X.data.toList=l):=by
 rw[Yl,Yq,decide_eq_true_iff,ByteArray.toList_eq]
theorem aIa (v:Value) (L:List (List UInt8)) (m:ByteArray) (w:World) (hr:Row w v L.length (aHE L)) (hl:L.length≤1000) :
 Calls prog 141 #[v,.string m] w fun e w'=>e=.returned (.bool (decide (m.data.toList∈L)))∧w=w':=by
 obtain⟨R,hR⟩:∃ R,decide (m.data.toList∈L)=R:=⟨_,rfl⟩;rw[hR];have HR:=Hh hR;clear hR;obtain⟨a,c,rfl,hcap,hh⟩:=hr;have HH:=Hh hh;have hcc:(L.length:Int)≤(c:Int):=om
 clear hh hcap;go_enter func141,ntmps141
 go_wp2_with fail
 go_loopw [5] (fun i wr=>wr=w∧∃ j:Nat,j≤L.length∧i=.int .i64 j∧Hid (∀ y∈L.take j,y≠m.data.toList)) (fun i _=>L.length - (intOf i).toNat)
 case atStart=>exact⟨rfl,0,om,rfl,Hh sm⟩
 case round =>
  obtain⟨rfl,j,hj,rfl,HNO⟩:=hrel;by_cases hlt:j<L.length
  · obtain⟨x,hx⟩:∃ x,L[j]? = some x:=⟨_,Qb hlt⟩;obtain⟨g,o,rfl,hg,hcs⟩:=HH.out (by intro e;have:=congrArg List.length e;simp[aHE] at this;subst this;exact absurd hlt (Qw _))
    have k0:wr.cell? ⟨g,o+j,none⟩=some (.string ⟨x.toArray⟩):=by rw[hcs j (by simp[aHE];exact hlt)];simp[aHE,hx]
    obtain⟨X,hX⟩:∃ X:ByteArray,⟨x.toArray⟩=X:=⟨_,rfl⟩;have hxX:x=X.data.toList:=by rw[←hX]
    rw[hX] at k0;have he:=eqK X m;have hi0:(0:Int)≤(j:Int):=om
    have hi1:(j:Int)<(L.length:Int):=om
    have HX:=Hh hx;clear hx hcs;by_cases hm:x=m.data.toList
    · rw[Qh (show X=m by rw[←hX,hm])] at he;have hr:R=true:=by rw[←HR.out];exact Qh (by rw[←hm];exact Qu HX.out)
      subst hr;clear hm hX hxX;go_wp2_with fail
      go_ret;exact⟨rfl,rfl⟩
    · rw[Qg (show ¬ X=m from fun e=>hm (by rw[hxX,e]))] at he
      have HM:=Hh hm;clear hm hX hxX;go_wp2_with fail
      go_roundw
      case rel=>exact⟨trivial,j+1,om,by go_num,Hh (aHv HX.out HNO.out HM.out)⟩
      case measure=>simp[intOf];omega
  · obtain rfl:j=L.length:=om
    have hr:R=false:=by
     rw[←HR.out];have h1:=HNO.out;rw[Qy] at h1;exact Qg (fun h=>h1 _ h rfl)
    subst hr;go_wp2_with fail
    go_ret;exact⟨rfl,rfl⟩
def aJN:List (List UInt8):=[[66,73,84],[82,69,83],[83,69,84],[73,77],[82,83,84],[79,85,84]]
theorem aIA (m:List UInt8) (v:Value) (l:List Op3) (w:World) (hr:Row w v l.length (opc l)) (hl:l.length≤1000000) :
 Calls prog 142 #[eU m v] w fun e w'=>e=.returned (.int .i64 (cY (m,l):Nat))∧Below w w w':=by
 obtain⟨X,hX⟩:∃ X:ByteArray,⟨m.toArray⟩=X:=⟨_,rfl⟩;have hm:m=X.data.toList:=by rw[←hX]
 have hwd:cY (m,l)=if X.data.toList∈aJN then 0 else if X.data.toList=[74,80] then 2 else if X.data.toList=[67,65,76,76] then 2 else if X.data.toList=[76,68] then (if l.head?.map (·.1)=some 3 then 2 else 1) else 1:=by
  unfold cY aJN;rw[←hm];dsimp only;by_cases h1:m=[74,80]
  · subst h1;simp
  · by_cases h2:m=[67,65,76,76]
    · subst h2;simp
    · by_cases h3:m=[76,68]
      · subst h3;by_cases hq:Option.map (fun x=>x.fst) l.head? = some 3<;>simp[hq]
      · simp[h1,h2,h3]
 obtain⟨R,hR⟩:∃ R,cY (m,l)=R:=⟨_,rfl⟩;rw[hwd] at hR;rw[hwd,hR];have HR:=Hh hR;obtain⟨a,c,rfl,hc,hh⟩:=hr.op;have HH:=Hh hh;have hcc:(l.length:Int)≤(c:Int):=om
 have HLL:=Hh hl;have e1:=eqC X [74,80];have e2:=eqC X [67,65,76,76];have e3:=eqC X [76,68];have HE:=Hh (And.intro e1 (And.intro e2 e3));unfold eU;rw[hX];clear hh hc hm hwd hR hX hl e1 e2 e3;go_enter func142,ntmps142
 go_wp2_with fail
 obtain⟨W0,hW0⟩:∃ W,(w.alloc (.cells #[.string X,.slice a l.length c] 53)).alloc (.cells #[.string ⟨#[66,73,84]⟩,.string ⟨#[82,69,83]⟩,.string ⟨#[83,69,84]⟩,.string ⟨#[73,77]⟩,.string ⟨#[82,83,84]⟩,.string ⟨#[79,85,84]⟩] 9)=W:=⟨_,rfl⟩;rw[hW0];have hb0:Below w w W0:=by rw[←hW0];exact bl
 have hbx:W0.heap[w.heap.size]? = some (.cells #[.string X,.slice a l.length c] 53 (0,0)):=by rw[←hW0];exact aE (aF _ _)
 have hbs:W0.heap[w.heap.size+1]? = some (.cells #[.string ⟨#[66,73,84]⟩,.string ⟨#[82,69,83]⟩,.string ⟨#[83,69,84]⟩,.string ⟨#[73,77]⟩,.string ⟨#[82,83,84]⟩,.string ⟨#[79,85,84]⟩] 9 (0,0)):=by
  rw[←hW0]
  have:=aF (w.alloc (.cells #[.string X,.slice a l.length c] 53)) (.cells #[.string ⟨#[66,73,84]⟩,.string ⟨#[82,69,83]⟩,.string ⟨#[83,69,84]⟩,.string ⟨#[73,77]⟩,.string ⟨#[82,83,84]⟩,.string ⟨#[79,85,84]⟩] 9)
  rwa [Qa] at this
 have hrow:=aHO (L:=aJN) hbs rfl;obtain⟨p0,p1,_,_⟩:=aL hbx;have hlx:=aA hbx;have HB0:=Hh hb0;have HIN:=Hh (show Calls prog 141 #[.slice (w+1:Nat) 6 6,.string X] W0 _ from aIa _ aJN X W0 hrow dc)
 have HGL:=Hh (fun x (t:List Op3) (h:l=x::t)=>(by
  obtain⟨g,o,ha,hg,hcs⟩:=HH.out (by rw[h];simp);obtain⟨c0,_,_⟩:=hcs 0 x (by rw[h];rfl);rw[Yr,Xu] at c0;exact⟨g,o,ha,Qj hg hb0.size,(hb0.cell (p:=⟨g,_,none⟩) hg).trans c0⟩:∃ g o,a=some ⟨g,o,none⟩∧g<W0.heap.size∧W0.cell? ⟨g,o,none⟩=some (.int .i64 x.1)))
 clear hW0 hb0 hbx hbs hrow HH;refine HIN.out.mono ?_;rintro e w1 ⟨rfl,rfl⟩;by_cases h0:X.data.toList∈aJN
 · have hr:R=0:=by rw[←HR.out,if_pos h0]
   subst hr;rw[Qh h0];clear h0 HR;go_wp2_with fail
   go_ret;exact⟨rfl,HB0.out⟩
 · rw[Qg h0];obtain⟨e1,e2,e3⟩:=HE.out;by_cases h1:X.data.toList=[74,80]
   · have hr:R=2:=by rw[←HR.out,if_neg h0,if_pos h1]
     subst hr;rw[Qh h1] at e1;clear h0 h1 HR e2 e3;go_wp2_with fail
     go_ret;exact⟨rfl,HB0.out⟩
   · by_cases h2:X.data.toList=[67,65,76,76]
     · have hr:R=2:=by rw[←HR.out,if_neg h0,if_neg h1,if_pos h2]
       subst hr;rw[Qg h1] at e1;rw[Qh h2] at e2;clear h0 h1 h2 HR e3;go_wp2_with fail
       go_ret;exact⟨rfl,HB0.out⟩
     · rw[Qg h1] at e1;rw[Qg h2] at e2;by_cases h3:X.data.toList=[76,68]
       · rw[Qh h3] at e3;have HR2:Hid ((if l.head?.map (·.1)=some 3 then 2 else 1)=R):=Hh (by rw[←HR.out,if_neg h0,if_neg h1,if_neg h2,if_pos h3])
         clear h0 h1 h2 h3 HR;cases hl:l with
         | nil =>
           have hr:R=1:=by rw[←HR2.out,hl];rfl
           subst hr;have hz:¬ (0:Int)<(l.length:Int):=by rw[hl];simp
           clear hl HR2 HGL;go_wp2_with fail
           go_ret;exact⟨rfl,HB0.out⟩
         | cons x t =>
           obtain⟨g,o,rfl,hg,q0⟩:=HGL.out x t hl;have hpos:(0:Int)<(l.length:Int):=by rw[hl];simp
           have HR3:Hid ((if x.1=3 then 2 else 1)=R):=Hh (by rw[←HR2.out,hl];simp);obtain⟨x0,x1,x2⟩:=x;dsimp only at q0 HR3;have HL:=Hh hl;clear hl HR2 HGL;by_cases hx:x0=3
           · subst hx;have hr:R=2:=by rw[←HR3.out];rfl
             subst hr;clear HR3;go_wp2_with fail
             go_ret;exact⟨rfl,HB0.out⟩
           · have hxb:(x0 == 3)=false:=by simp[hx]
             have hr:R=1:=by rw[←HR3.out,if_neg hx]
             subst hr;clear HR3 hx;go_wp2_with fail
             go_ret;exact⟨rfl,HB0.out⟩
       · rw[Qg h3] at e3;have hr:R=1:=by rw[←HR.out,if_neg h0,if_neg h1,if_neg h2,if_neg h3]
         subst hr;clear h0 h1 h2 h3 HR;go_wp2_with fail
         go_ret;exact⟨rfl,HB0.out⟩
def aLc (i:aY):Int :=
 if (aKE i).1=wJP then (if (aKG i 4).isSome then 4 else 1) else if (aKE i).1=wJR then 1 else if (aKE i).1=aLj then 1 else if (aKE i).1=aMg then 2 else if (aKE i).1=aNo then 2 else if (aKE i).1=aOh then 3 else if (aKE i).1=aMR then 3 else if (aKE i).1=aMQ then 3 else if (aKE i).1=aMS then 4 else 0
def aLF (i:aY):Bool:=(aKG i 8).isSome || decide ((aKE i).1=aLj)
theorem aLW (m:List UInt8) (v:Value) (l:List Op3) (w:World) (hT:TabsA w) (hr:Row w v l.length (opc l)) (hl:l.length≤900) :
 Calls prog 148 #[eU m v] w fun e w'=>e=.returned (.int .i64 (aLc (m,l)))∧Below w w w':=by
 have HLG:=Hh (fun X (hb:Below w w X)=>aLm m v l X (hT.below hb) (hr.below hb) hl);have hln:(aKE (m,l)).2.length≤1000:=by
  unfold aKE;split
  · have:=kM (m,l);dsimp only at this;omega
  · exact Qi _
 obtain⟨R,hR⟩:∃ R,aLc (m,l)=R:=⟨_,rfl⟩;rw[hR];unfold aLc at hR;rw[←aKX] at hR;obtain⟨G,hG⟩:∃ G,aKE (m,l)=G:=⟨_,rfl⟩;rw[hG] at hR HLG hln;have hA:=fun u X (h:Row X u G.2.length (opc G.2))=>aLB G.1 u G.2 4 X h hln;obtain⟨A,hAA⟩:∃ A,ofF G.2 4=A:=⟨_,rfl⟩;rw[hAA] at hR hA;obtain⟨X,hX⟩:∃ X:ByteArray,⟨G.1.toArray⟩=X:=⟨_,rfl⟩;have hm:G.1=X.data.toList:=by rw[←hX]
 obtain⟨b0,h0⟩:∃ b,decide (G.1=wJP)=b:=⟨_,rfl⟩;have e0:(X.toList == [74,80])=b0:=by rw[eqC,←h0,hm];rfl
 obtain⟨b1,h1⟩:∃ b,decide (G.1=wJR)=b:=⟨_,rfl⟩;have e1:(X.toList == [74,82])=b1:=by rw[eqC,←h1,hm];rfl
 obtain⟨b2,h2⟩:∃ b,decide (G.1=aLj)=b:=⟨_,rfl⟩;have e2:(X.toList == [68,74,78,90])=b2:=by rw[eqC,←h2,hm];rfl
 obtain⟨b3,h3⟩:∃ b,decide (G.1=aMg)=b:=⟨_,rfl⟩;have e3:(X.toList == [67,65,76,76])=b3:=by rw[eqC,←h3,hm];rfl
 obtain⟨b4,h4⟩:∃ b,decide (G.1=aNo)=b:=⟨_,rfl⟩;have e4:(X.toList == [82,83,84])=b4:=by rw[eqC,←h4,hm];rfl
 obtain⟨b5,h5⟩:∃ b,decide (G.1=aOh)=b:=⟨_,rfl⟩;have e5:(X.toList == [82,69,84])=b5:=by rw[eqC,←h5,hm];rfl
 obtain⟨b6,h6⟩:∃ b,decide (G.1=aMR)=b:=⟨_,rfl⟩;have e6:(X.toList == [82,69,84,73])=b6:=by rw[eqC,←h6,hm];rfl
 obtain⟨b7,h7⟩:∃ b,decide (G.1=aMQ)=b:=⟨_,rfl⟩;have e7:(X.toList == [82,69,84,78])=b7:=by rw[eqC,←h7,hm];rfl
 obtain⟨b8,h8⟩:∃ b,decide (G.1=aMS)=b:=⟨_,rfl⟩;have e8:(X.toList == [72,65,76,84])=b8:=by rw[eqC,←h8,hm];rfl
 have hR2:R=if b0=true then (if A.isSome=true then 4 else 1) else if b1=true then 1 else if b2=true then 1 else if b3=true then 2 else if b4=true then 2 else if b5=true then 3 else if b6=true then 3 else if b7=true then 3 else if b8=true then 4 else 0:=by
  rw[←hR];simp only[←h0,←h1,←h2,←h3,←h4,←h5,←h6,←h7,←h8,Qf]
 have HR3:=Hh hR2;obtain⟨a,c,rfl,_,_⟩:=hr;unfold eU at *;rw[hX] at HLG hA;have HA:=Hh hA;obtain⟨G1,L2⟩:=G;dsimp only at HLG HA hln;clear hT hl hR hG hAA hX hm hA hR2 h0 h1 h2 h3 h4 h5 h6 h7 h8;go_enter func148,ntmps148
 go_wp2_with fail
 refine (HLG.out _ (br.alloc lr _)).mono ?_;rintro e w1 ⟨v',rfl,hrow,hb1⟩;have HB0:=Hh (((Below.refl w w).alloc (o:=.cells #[m,.slice a l.length c] 53) lr).trans (hb1.mono (by rw[Qa];omega)));obtain⟨a',c',rfl,_,_⟩:=id hrow;have HRW:=Hh hrow;clear hb1 hrow;go_wp2_with fail
 obtain⟨W1,hW1⟩:∃ W,w1.alloc (.cells #[.string X,.slice a' L2.length c'] 53)=W:=⟨_,rfl⟩;have hb2:Below w1 w1 W1:=by rw[←hW1];exact br.alloc lr _
 have hx1:W1.heap[w1.heap.size]? = some (.cells #[.string X,.slice a' L2.length c'] 53 (0,0)):=by rw[←hW1];exact aF _ _
 rw[hW1];have HB1:=Hh (HB0.out.trans (hb2.mono HB0.out.size));have HX1:=Hh hx1;have HRW1:=Hh (HRW.out.below hb2);clear hW1 hb2 hx1 HB0 HRW;refine (HA.out _ _ HRW1.out).mono ?_;rintro e w2 ⟨rfl,hb3⟩;have HB2:=Hh ((HB1.out.trans (hb3.mono HB1.out.size)).alloc (o:=.cells #[.int .i64 ((A.getD (0,0,0)).1),.int .i64 ((A.getD (0,0,0)).2.1),.int .i64 ((A.getD (0,0,0)).2.2)] 144) (HB1.out.trans (hb3.mono HB1.out.size)).size);have HX2:=Hh (aB HX1.out hb3 (aA HX1.out));clear hb3 HX1;obtain⟨p0,p1,_⟩:=aL HX2.out;have hl1:=aA HX2.out;cases b0
 case true =>
  have hr:R=if A.isSome=true then 4 else 1:=HR3.out.trans sm
  have HR4:=Hh hr;clear hr HR3 e1 e2 e3 e4 e5 e6 e7 e8;cases A
  case none =>
   obtain rfl:R=1:=HR4.out;go_wp2_with fail
   go_ret;exact⟨rfl,HB2.out⟩
  case some x =>
   obtain rfl:R=4:=HR4.out;go_wp2_with fail
   go_ret;exact⟨rfl,HB2.out⟩
 case false =>
  cases b1
  case true =>
   have hr:R=1:=HR3.out.trans sm;subst hr;clear HR3 e2 e3 e4 e5 e6 e7 e8;go_wp2_with fail
   go_ret;exact⟨rfl,HB2.out⟩
  case false =>
   cases b2
   case true =>
    have hr:R=1:=HR3.out.trans sm;subst hr;clear HR3 e3 e4 e5 e6 e7 e8;go_wp2_with fail
    go_ret;exact⟨rfl,HB2.out⟩
   case false =>
    cases b3
    case true =>
     have hr:R=2:=HR3.out.trans sm;subst hr;clear HR3 e4 e5 e6 e7 e8;go_wp2_with fail
     go_ret;exact⟨rfl,HB2.out⟩
    case false =>
     cases b4
     case true =>
      have hr:R=2:=HR3.out.trans sm;subst hr;clear HR3 e5 e6 e7 e8;go_wp2_with fail
      go_ret;exact⟨rfl,HB2.out⟩
     case false =>
      cases b5
      case true =>
       have hr:R=3:=HR3.out.trans sm;subst hr;clear HR3 e6 e7 e8;go_wp2_with fail
       go_ret;exact⟨rfl,HB2.out⟩
      case false =>
       cases b6
       case true =>
        have hr:R=3:=HR3.out.trans sm;subst hr;clear HR3 e7 e8;go_wp2_with fail
        go_ret;exact⟨rfl,HB2.out⟩
       case false =>
        cases b7
        case true =>
         have hr:R=3:=HR3.out.trans sm;subst hr;clear HR3 e8;go_wp2_with fail
         go_ret;exact⟨rfl,HB2.out⟩
        case false =>
         cases b8
         case true =>
          have hr:R=4:=HR3.out.trans sm;subst hr;clear HR3;go_wp2_with fail
          go_ret;exact⟨rfl,HB2.out⟩
         case false =>
          have hr:R=0:=HR3.out.trans sm;subst hr;clear HR3;go_wp2_with fail
          go_ret;exact⟨rfl,HB2.out⟩
theorem aNf (m:List UInt8) (v:Value) (l:List Op3) (w:World) (hT:TabsA w) (hr:Row w v l.length (opc l)) (hl:l.length≤900) :
 Calls prog 149 #[eU m v] w fun e w'=>e=.returned (.bool (aLF (m,l)))∧Below w w w':=by
 have HLG:=Hh (fun X (hb:Below w w X)=>aLm m v l X (hT.below hb) (hr.below hb) hl);have hln:(aKE (m,l)).2.length≤1000:=by
  unfold aKE;split
  · have:=kM (m,l);dsimp only at this;omega
  · exact Qi _
 obtain⟨R,hR⟩:∃ R,aLF (m,l)=R:=⟨_,rfl⟩;rw[hR];unfold aLF at hR;rw[←aKX] at hR;obtain⟨G,hG⟩:∃ G,aKE (m,l)=G:=⟨_,rfl⟩;rw[hG] at hR HLG hln;have hA:=fun u X (h:Row X u G.2.length (opc G.2))=>aLB G.1 u G.2 8 X h hln;obtain⟨A,hAA⟩:∃ A,ofF G.2 8=A:=⟨_,rfl⟩;rw[hAA] at hR hA;obtain⟨X,hX⟩:∃ X:ByteArray,⟨G.1.toArray⟩=X:=⟨_,rfl⟩;have hm:G.1=X.data.toList:=by rw[←hX]
 obtain⟨b1,h1⟩:∃ b,decide (G.1=aLj)=b:=⟨_,rfl⟩;have e1:(X.toList == [68,74,78,90])=b1:=by rw[eqC,←h1,hm];rfl
 rw[h1] at hR;have HR:=Hh hR;obtain⟨a,c,rfl,_,_⟩:=hr;unfold eU at *;rw[hX] at HLG hA;have HA:=Hh hA;obtain⟨G1,L2⟩:=G;dsimp only at HLG HA hln;clear hT hl hR hG hAA hX hm hA h1;go_enter func149,ntmps149
 go_wp2_with fail
 refine (HLG.out _ (br.alloc lr _)).mono ?_;rintro e w1 ⟨v',rfl,hrow,hb1⟩;have HB0:=Hh (((Below.refl w w).alloc (o:=.cells #[m,.slice a l.length c] 53) lr).trans (hb1.mono (by rw[Qa];omega)));obtain⟨a',c',rfl,_,_⟩:=id hrow;have HRW:=Hh hrow;clear hb1 hrow;go_wp2_with fail
 obtain⟨W1,hW1⟩:∃ W,w1.alloc (.cells #[.string X,.slice a' L2.length c'] 53)=W:=⟨_,rfl⟩;have hb2:Below w1 w1 W1:=by rw[←hW1];exact br.alloc lr _
 have hx1:W1.heap[w1.heap.size]? = some (.cells #[.string X,.slice a' L2.length c'] 53 (0,0)):=by rw[←hW1];exact aF _ _
 rw[hW1];have HB1:=Hh (HB0.out.trans (hb2.mono HB0.out.size));have HX1:=Hh hx1;have HRW1:=Hh (HRW.out.below hb2);clear hW1 hb2 hx1 HB0 HRW;refine (HA.out _ _ HRW1.out).mono ?_;rintro e w2 ⟨rfl,hb3⟩;have HB2:=Hh ((HB1.out.trans (hb3.mono HB1.out.size)).alloc (o:=.cells #[.int .i64 ((A.getD (0,0,0)).1),.int .i64 ((A.getD (0,0,0)).2.1),.int .i64 ((A.getD (0,0,0)).2.2)] 144) (HB1.out.trans (hb3.mono HB1.out.size)).size);have HX2:=Hh (aB HX1.out hb3 (aA HX1.out));clear hb3 HX1;obtain⟨p0,p1,_⟩:=aL HX2.out;have hl1:=aA HX2.out;cases A
 case none =>
  obtain rfl:b1=R:=HR.out;go_wp2_with fail
  go_ret;exact⟨rfl,HB2.out⟩
 case some x =>
  obtain rfl:true=R:=HR.out;go_wp2_with fail
  go_ret;exact⟨rfl,HB2.out⟩
def aLn (a:Int) (i:aY):Int × Bool :=
 if a<0∨65535<a∨(aLc i≠1∧aLc i≠2) then (0,false) else ((aKG i 10).map fun o=>((a+2+o.2.2)%65536,true)).getD (((aKG i 6).getD (0,0,0)).2.2,(aKG i 6).isSome)
theorem aOT (x:Int) (_h1:-70000≤x) (_h2:x≤70000):bits .and .i64 x 65535=x%65536:=by
 show IntKind.i64.wrap (((BitVec.ofInt 64 x &&& BitVec.ofInt 64 65535).toNat:Nat):Int)=_
 have hx:(BitVec.ofInt 64 x).toNat=(x%(2 ^ 64:Nat)).toNat:=BitVec.toNat_ofInt ..;have hn:(BitVec.ofInt 64 65535).toNat=2 ^ 16 - 1:=dc
 rw[BitVec.toNat_and,hx,hn,Nat.and_two_pow_sub_one_eq_mod,IntWalk.i64_in _ om];omega
theorem aNc (ad:Int) (m:List UInt8) (v:Value) (l:List Op3) (w:World) (hT:TabsA w) (hr:Row w v l.length (opc l)) (hl:l.length≤900) :
 Calls prog 147 #[ad,eU m v] w fun e w'=>e=.returned (.tuple #[.int .i64 (aLn ad (m,l)).1,.bool (aLn ad (m,l)).2])∧Below w w w':=by
 have HK:=Hh (fun X (hb:Below w w X)=>aLW m v l X (hT.below hb) (hr.below hb) hl);have HLG:=Hh (fun X (hb:Below w w X)=>aLm m v l X (hT.below hb) (hr.below hb) hl);have hln:(aKE (m,l)).2.length≤1000:=by
  unfold aKE;split
  · have:=kM (m,l);dsimp only at this;omega
  · exact Qi _
 have hrel:=fun o=>@aMy (m,l) o;obtain⟨R,hR⟩:∃ R,aLn ad (m,l)=R:=⟨_,rfl⟩;rw[hR];unfold aLn at hR;rw[←aKX,←aKX] at hR;obtain⟨K,hK⟩:∃ K,aLc (m,l)=K:=⟨_,rfl⟩;have hA10:=aKX (m,l) 10;obtain⟨G,hG⟩:∃ G,aKE (m,l)=G:=⟨_,rfl⟩;rw[hG] at hR HLG hln hA10;rw[hK] at hR HK;have hA:=fun u X (h:Row X u G.2.length (opc G.2))=>aLB G.1 u G.2 10 X h hln;have hB:=fun u X (h:Row X u G.2.length (opc G.2))=>aLB G.1 u G.2 6 X h hln;rw[←hA10] at hrel;obtain⟨A,hAA⟩:∃ A,ofF G.2 10=A:=⟨_,rfl⟩;obtain⟨B,hBB⟩:∃ B,ofF G.2 6=B:=⟨_,rfl⟩;rw[hAA] at hR hA hrel;rw[hBB] at hR hB;have HR:=Hh hR;have HRL:=Hh hrel;have HA:=Hh hA;have HB:=Hh hB;obtain⟨a,c,rfl,_,_⟩:=hr;obtain⟨G1,L2⟩:=G;unfold eU at *;dsimp only at HLG HA HB hln;clear hT hl hR hK hG hA hB hAA hBB hA10 hrel;go_enter func147,ntmps147
 go_wp2_with fail
 obtain⟨W0,hW0⟩:∃ W,w.alloc (.cells #[m,.slice a l.length c] 53)=W:=⟨_,rfl⟩;have hb0:Below w w W0:=by rw[←hW0];exact bl
 have hx0:W0.heap[w.heap.size]? = some (.cells #[m,.slice a l.length c] 53 (0,0)):=by rw[←hW0];exact aF _ _
 rw[hW0];have HB0:=Hh hb0;have HX0:=Hh hx0;clear hW0 hb0 hx0;refine (HK.out _ HB0.out).mono ?_;rintro e w1 ⟨rfl,hb1⟩;have hal:Below w1 w1 (w1.alloc (.cells #[ad] 3)):=br.alloc lr _;have HB1:=Hh ((HB0.out.trans (hb1.mono HB0.out.size)).trans (hal.mono (HB0.out.trans (hb1.mono HB0.out.size)).size));have HX1:=Hh (aB (aB HX0.out hb1 (aA HX0.out)) hal (Qj (aA HX0.out) hb1.size));have HFT:=Hh (jS 0 65535 ad w1 (w1.alloc (.cells #[ad] 3)) (aC (aF _ _) 0));clear hb1 HX0 HB0 hal;go_wp2_with fail
 refine HFT.out.mono ?_;rintro e w2 ⟨rfl,rfl⟩;obtain⟨W2,hW2⟩:∃ W,w1.alloc (.cells #[ad] 3)=W:=⟨_,rfl⟩;rw[hW2] at HB1 HX1 ⊢;clear hW2 HFT;obtain⟨p0,p1,_⟩:=aL HX1.out;have hl1:=aA HX1.out;by_cases hin:0≤ad∧ad≤65535
 · obtain⟨g1,g2⟩:=hin;rw[Qh g1,Qh g2];by_cases h3:K=1∨K=2
   · have hr3:(A.map fun o=>((ad+2+o.2.2)%65536,true)).getD ((B.getD (0,0,0)).2.2,B.isSome)=R:=by rw[←HR.out,if_neg om]
     have HR3:=Hh hr3;clear HR hr3;rcases h3 with rfl|rfl;all_goals
      go_wp2_with fail
      refine (HLG.out _ HB1.out).mono ?_;rintro e w3 ⟨v',rfl,hrow,hb3⟩;obtain⟨a',c',rfl,_,_⟩:=id hrow;have hal:Below w3 w3 (w3.alloc (.cells #[G1,.slice a' L2.length c'] 53)):=br.alloc lr _;have HB3:=Hh ((HB1.out.trans (hb3.mono HB1.out.size)).trans (hal.mono (HB1.out.trans (hb3.mono HB1.out.size)).size));have HX3:=Hh (aF w3 (.cells #[G1,.slice a' L2.length c'] 53));have HRW:=Hh (hrow.below hal);clear hb3 hrow hal p0 p1 hl1;go_wp2_with fail
      refine (HA.out _ _ HRW.out).mono ?_;rintro e w4 ⟨rfl,hb4⟩;have HB4:=Hh ((HB3.out.trans (hb4.mono HB3.out.size)).alloc (o:=.cells #[.int .i64 ((A.getD (0,0,0)).1),.int .i64 ((A.getD (0,0,0)).2.1),.int .i64 ((A.getD (0,0,0)).2.2)] 144) (HB3.out.trans (hb4.mono HB3.out.size)).size);have HX4:=Hh (aB HX3.out hb4 (aA HX3.out));have HRW4:=Hh (HRW.out.below hb4);clear hb4 HX3 HRW;cases A
      case some o =>
       obtain⟨o0,o1,o2⟩:=o;obtain⟨q1,q2⟩:=HRL.out _ rfl;dsimp only at q1 q2;obtain rfl:((ad+2+o2)%65536,true)=R:=HR3.out;clear HR3;have hand:=aOT (ad+2+o2) om om;have HAND:=Hh hand;clear hand;go_wp2_with fail
       go_ret2;exact⟨by rw[←HAND.out];rfl,HB4.out⟩
      case none =>
       obtain rfl:((B.getD (0,0,0)).2.2,B.isSome)=R:=HR3.out;obtain⟨p0,p1,_⟩:=aL HX4.out;have hl2:=aA HX4.out;have HB4z:=Hh (show Below w w (w4.alloc (.cells #[(0:Int),(0:Int),(0:Int)] 144)) from HB4.out)
       have HRW5:=Hh (HRW4.out.below (((Below.refl w4 w4).alloc (o:=.cells #[(0:Int),(0:Int),(0:Int)] 144) lr)));clear HR3;go_wp2_with fail
       refine (HB.out _ _ HRW5.out).mono ?_;rintro e w5 ⟨rfl,hb5⟩;have HB5:=Hh ((HB4z.out.trans (hb5.mono HB4z.out.size)).alloc (o:=.cells #[.int .i64 ((B.getD (0,0,0)).1),.int .i64 ((B.getD (0,0,0)).2.1),.int .i64 ((B.getD (0,0,0)).2.2)] 144) (HB4z.out.trans (hb5.mono HB4z.out.size)).size);clear hb5 p0 p1 hl2;go_wp2_with fail
       go_ret2;exact⟨rfl,HB5.out⟩
   · obtain rfl:(0,false)=R:=by rw[←HR.out,if_pos (.inr (.inr om))]
     have k1:(K != 1)=true:=by simp;omega
     have k2:(K != 2)=true:=by simp;omega
     clear HR h3;go_wp2_with fail
     go_ret2;exact⟨rfl,HB1.out⟩
 · obtain rfl:(0,false)=R:=by rw[←HR.out,if_pos om]
   have hd:(decide (0≤ad) && decide (ad≤65535))=false:=by
    rw[Bool.and_eq_false_iff];by_cases h:0≤ad
    · exact .inr (Qg (fun h2=>hin ⟨h,h2⟩))
    · exact .inl (Qg h)
   rw[hd];clear HR hin hd;go_wp2_with fail
   go_ret2;exact⟨rfl,HB1.out⟩
end
end Go.Proofs.YtoigglljnklhlaaGreatDoor
