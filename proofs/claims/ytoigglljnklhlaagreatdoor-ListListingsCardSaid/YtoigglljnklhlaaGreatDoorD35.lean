/- Joined. -/
import Derived.Test.YtoigglljnklhlaaGreatDoorD33
import Derived.Test.YtoigglljnklhlaaGreatDoorD34
set_option maxHeartbeats 8000000
set_option maxRecDepth 100000
namespace Go.Proofs.YtoigglljnklhlaaGreatDoor
open Go.RowKit Go.Sort
theorem eqK (a b:ByteArray):(a.toList == b.toList)=decide (a=b):=by
 by_cases h:a=b
 · subst h;simp
 · rw[Wx h,decide_eq_false h]
theorem aHv {α:Type} [DecidableEq α] {l:List α} {j:Nat} {x m:α} (hx:l[j]? = some x) (h:∀ y∈l.take j,y≠m) (hne:x≠m):∀ y∈l.take (j+1),y≠m:=by
 intro y hy;rw[List.take_add_one,hx] at hy;rcases List.mem_append.1 hy with h1|h1
 · exact h y h1
 · simp at h1;subst h1;exact hne
theorem aHb {B:Nat} {a w:World} (h:Below B a w) (n:Nat):Below B a (w.drewN n):=⟨h.os,h.tape,h.output,h.size,h.block⟩
end Go.Proofs.YtoigglljnklhlaaGreatDoor
namespace Go.Proofs.YtoigglljnklhlaaGreatDoor
open Go.RowKit Go.Sort
open Go.Proofs.Tryz
def aHE (L:List (List UInt8)):List Value:=L.map fun s=>.string ⟨s.toArray⟩
theorem aHO {w:World} {g:Nat} {T:TypeId} {L:List (List UInt8)} {c:Array Value} (h:w.heap[g]? = some (.cells c T (0,0))) (hc:c.toList=aHE L):Row w (.slice (some ⟨g,0,none⟩) L.length L.length) L.length (aHE L) :=
 ⟨_,_,rfl,Nat.le_refl _,fun _=>⟨g,0,rfl,aA h,fun j _=>by
  rw[Lib.cell_of_heap h,Nat.zero_add,←hc];simp⟩⟩
theorem eqC (X:ByteArray) (l:List UInt8):(X.toList == l)=decide (X.data.toList=l):=by
 rw[Bool.eq_iff_iff,beq_iff_eq,decide_eq_true_iff,ByteArray.toList_eq]
theorem aIa (v:Value) (L:List (List UInt8)) (m:ByteArray) (w:World) (hr:Row w v L.length (aHE L)) (hl:L.length≤1000) :
 Calls prog 141 #[v,.string m] w fun e w'=>e=.returned (.bool (decide (m.data.toList∈L)))∧w=w':=by
 obtain⟨R,hR⟩:∃ R,decide (m.data.toList∈L)=R:=⟨_,rfl⟩;rw[hR];have HR:=Hh hR;clear hR;obtain⟨a,c,rfl,hcap,hh⟩:=hr;have HH:=Hh hh;have hcc:(L.length:Int)≤(c:Int):=om
 clear hh hcap;go_enter func141,ntmps141
 go_wp2_with fail
 go_loopw [5] (fun i wr=>wr=w∧∃ j:Nat,j≤L.length∧i=.int .i64 j∧Hid (∀ y∈L.take j,y≠m.data.toList)) (fun i _=>L.length - (intOf i).toNat)
 case atStart=>exact⟨rfl,0,om,rfl,Hh sm⟩
 case round =>
  obtain⟨rfl,j,hj,rfl,HNO⟩:=hrel;by_cases hlt:j<L.length
  · obtain⟨x,hx⟩:∃ x,L[j]? = some x:=⟨_,List.getElem?_eq_getElem hlt⟩;obtain⟨g,o,rfl,hg,hcs⟩:=HH.out (by intro e;have:=congrArg List.length e;simp[aHE] at this;subst this;exact absurd hlt (Nat.not_lt_zero _))
    have k0:wr.cell? ⟨g,o+j,none⟩=some (.string ⟨x.toArray⟩):=by rw[hcs j (by simp[aHE];exact hlt)];simp[aHE,hx]
    obtain⟨X,hX⟩:∃ X:ByteArray,⟨x.toArray⟩=X:=⟨_,rfl⟩;have hxX:x=X.data.toList:=by rw[←hX]
    rw[hX] at k0;have he:=eqK X m;have hi0:(0:Int)≤(j:Int):=om
    have hi1:(j:Int)<(L.length:Int):=om
    have HX:=Hh hx;clear hx hcs;by_cases hm:x=m.data.toList
    · rw[decide_eq_true (show X=m by rw[←hX,hm])] at he;have hr:R=true:=by rw[←HR.out];exact decide_eq_true (by rw[←hm];exact List.mem_of_getElem? HX.out)
      subst hr;clear hm hX hxX;go_wp2_with fail
      go_ret;exact⟨rfl,rfl⟩
    · rw[decide_eq_false (show ¬ X=m from fun e=>hm (by rw[hxX,e]))] at he
      have HM:=Hh hm;clear hm hX hxX;go_wp2_with fail
      go_roundw
      case rel=>exact⟨trivial,j+1,om,by go_num,Hh (aHv HX.out HNO.out HM.out)⟩
      case measure=>simp[intOf];omega
  · obtain rfl:j=L.length:=om
    have hr:R=false:=by
     rw[←HR.out];have h1:=HNO.out;rw[List.take_length] at h1;exact decide_eq_false (fun h=>h1 _ h rfl)
    subst hr;go_wp2_with fail
    go_ret;exact⟨rfl,rfl⟩
def aJN:List (List UInt8):=[[66,73,84],[82,69,83],[83,69,84],[73,77],[82,83,84],[79,85,84]]
theorem aIA (m:List UInt8) (v:Value) (l:List Op3) (w:World) (hr:Row w v l.length (opc l)) (hl:l.length≤1000000) :
 Calls prog 142 #[eU m v] w fun e w'=>e=.returned (.int .i64 (cY (m,l):Nat))∧Below w.heap.size w w':=by
 obtain⟨X,hX⟩:∃ X:ByteArray,⟨m.toArray⟩=X:=⟨_,rfl⟩;have hm:m=X.data.toList:=by rw[←hX]
 have hwd:cY (m,l)=if X.data.toList∈aJN then 0 else if X.data.toList=[74,80] then 2 else if X.data.toList=[67,65,76,76] then 2 else if X.data.toList=[76,68] then (if l.head?.map (·.1)=some 3 then 2 else 1) else 1:=by
  unfold cY aJN;rw[←hm];dsimp only;by_cases h1:m=[74,80]
  · subst h1;simp
  · by_cases h2:m=[67,65,76,76]
    · subst h2;simp
    · by_cases h3:m=[76,68]
      · subst h3;by_cases hq:Option.map (fun x=>x.fst) l.head? = some 3<;>simp[hq]
      · simp[h1,h2,h3]
 obtain⟨R,hR⟩:∃ R,cY (m,l)=R:=⟨_,rfl⟩;rw[hwd] at hR;rw[hwd,hR];have HR:=Hh hR;obtain⟨a,c,rfl,hc,hh⟩:=hr.op;have HH:=Hh hh;have hcc:(l.length:Int)≤(c:Int):=om
 have HLL:=Hh hl;have e1:=eqC X [74,80];have e2:=eqC X [67,65,76,76];have e3:=eqC X [76,68];have HE:=Hh (And.intro e1 (And.intro e2 e3));unfold eU;rw[hX];clear hh hc hm hwd hR hX hl e1 e2 e3;go_enter func142,ntmps142
 go_wp2_with fail
 obtain⟨W0,hW0⟩:∃ W,(w.alloc (.cells #[.string X,.slice a l.length c] 53)).alloc (.cells #[.string ⟨#[66,73,84]⟩,.string ⟨#[82,69,83]⟩,.string ⟨#[83,69,84]⟩,.string ⟨#[73,77]⟩,.string ⟨#[82,83,84]⟩,.string ⟨#[79,85,84]⟩] 9)=W:=⟨_,rfl⟩;rw[hW0];have hb0:Below w.heap.size w W0:=by rw[←hW0];exact bl
 have hbx:W0.heap[w.heap.size]? = some (.cells #[.string X,.slice a l.length c] 53 (0,0)):=by rw[←hW0];exact aE (aF _ _)
 have hbs:W0.heap[w.heap.size+1]? = some (.cells #[.string ⟨#[66,73,84]⟩,.string ⟨#[82,69,83]⟩,.string ⟨#[83,69,84]⟩,.string ⟨#[73,77]⟩,.string ⟨#[82,83,84]⟩,.string ⟨#[79,85,84]⟩] 9 (0,0)):=by
  rw[←hW0]
  have:=aF (w.alloc (.cells #[.string X,.slice a l.length c] 53)) (.cells #[.string ⟨#[66,73,84]⟩,.string ⟨#[82,69,83]⟩,.string ⟨#[83,69,84]⟩,.string ⟨#[73,77]⟩,.string ⟨#[82,83,84]⟩,.string ⟨#[79,85,84]⟩] 9)
  rwa [World.size_alloc] at this
 have hrow:=aHO (L:=aJN) hbs rfl;obtain⟨p0,p1,_,_⟩:=aL hbx;have hlx:=aA hbx;have HB0:=Hh hb0;have HIN:=Hh (show Calls prog 141 #[.slice (some ⟨w.heap.size+1,0,none⟩) 6 6,.string X] W0 _ from aIa _ aJN X W0 hrow dc)
 have HGL:=Hh (fun x (t:List Op3) (h:l=x::t)=>(by
  obtain⟨g,o,ha,hg,hcs⟩:=HH.out (by rw[h];simp);obtain⟨c0,_,_⟩:=hcs 0 x (by rw[h];rfl);rw[Nat.zero_mul,Nat.add_zero] at c0;exact⟨g,o,ha,Nat.lt_of_lt_of_le hg hb0.size,(hb0.cell (p:=⟨g,_,none⟩) hg).trans c0⟩:∃ g o,a=some ⟨g,o,none⟩∧g<W0.heap.size∧W0.cell? ⟨g,o,none⟩=some (.int .i64 x.1)))
 clear hW0 hb0 hbx hbs hrow HH;(with_reducible refine HIN.out.mono ?_);rintro e w1 ⟨rfl,rfl⟩;by_cases h0:X.data.toList∈aJN
 · have hr:R=0:=by rw[←HR.out,if_pos h0]
   subst hr;rw[decide_eq_true h0];clear h0 HR;go_wp2_with fail
   go_ret;exact⟨rfl,HB0.out⟩
 · rw[decide_eq_false h0];obtain⟨e1,e2,e3⟩:=HE.out;by_cases h1:X.data.toList=[74,80]
   · have hr:R=2:=by rw[←HR.out,if_neg h0,if_pos h1]
     subst hr;rw[decide_eq_true h1] at e1;clear h0 h1 HR e2 e3;go_wp2_with fail
     go_ret;exact⟨rfl,HB0.out⟩
   · by_cases h2:X.data.toList=[67,65,76,76]
     · have hr:R=2:=by rw[←HR.out,if_neg h0,if_neg h1,if_pos h2]
       subst hr;rw[decide_eq_false h1] at e1;rw[decide_eq_true h2] at e2;clear h0 h1 h2 HR e3;go_wp2_with fail
       go_ret;exact⟨rfl,HB0.out⟩
     · rw[decide_eq_false h1] at e1;rw[decide_eq_false h2] at e2;by_cases h3:X.data.toList=[76,68]
       · rw[decide_eq_true h3] at e3;have HR2:Hid ((if l.head?.map (·.1)=some 3 then 2 else 1)=R):=Hh (by rw[←HR.out,if_neg h0,if_neg h1,if_neg h2,if_pos h3])
         clear h0 h1 h2 h3 HR;cases hl:l with
         | nil =>
           have hr:R=1:=by rw[←HR2.out,hl];rfl
           subst hr;have hz:¬ (0:Int)<(l.length:Int):=by rw[hl];simp
           clear hl HR2 HGL;go_wp2_with fail
           go_ret;exact⟨rfl,HB0.out⟩
         | cons x t =>
           obtain⟨g,o,rfl,hg,q0⟩:=HGL.out x t hl;have hpos:(0:Int)<(l.length:Int):=by rw[hl];simp
           have HR3:Hid ((if x.1=3 then 2 else 1)=R):=Hh (by rw[←HR2.out,hl];simp);obtain⟨x0,x1,x2⟩:=x;dsimp only at q0 HR3;have HL:=Hh hl;clear hl HR2 HGL;by_cases hx:x0=3
           · subst hx;have hr:R=2:=by rw[←HR3.out];rfl
             subst hr;clear HR3;go_wp2_with fail
             go_ret;exact⟨rfl,HB0.out⟩
           · have hxb:(x0 == 3)=false:=by simp[hx]
             have hr:R=1:=by rw[←HR3.out,if_neg hx]
             subst hr;clear HR3 hx;go_wp2_with fail
             go_ret;exact⟨rfl,HB0.out⟩
       · rw[decide_eq_false h3] at e3;have hr:R=1:=by rw[←HR.out,if_neg h0,if_neg h1,if_neg h2,if_neg h3]
         subst hr;clear h0 h1 h2 h3 HR;go_wp2_with fail
         go_ret;exact⟨rfl,HB0.out⟩
theorem aID {a b:List Op3} (_hl:a.length=b.length) (j:Nat) (x y:Op3) (hx:a[j]? = some x) (hy:b[j]? = some y) (h:kB (a.take j)=kB (b.take j)) (h1:x.1=y.1) (h2:x.2.1=y.2.1):kB (a.take (j+1))=kB (b.take (j+1)):=by
 unfold kB at *;rw[List.take_add_one,List.take_add_one,hx,hy,List.map_append,List.map_append,h];simp[h1,h2]
theorem aIh {a b:List Op3} (j:Nat) (x y:Op3) (hx:a[j]? = some x) (hy:b[j]? = some y) (h:x.1≠y.1∨x.2.1≠y.2.1):kB a≠kB b:=by
 intro e;have h1:=congrArg (fun l=>l[j]?) e;unfold kB at h1;simp only[List.getElem?_map,hx,hy,Option.map_some,Option.some.injEq,Prod.mk.injEq] at h1;rcases h with h|h
 · exact h h1.1
 · exact h h1.2
theorem aHs (E:Ent) (v:Value) (m:List UInt8) (u:Value) (l:List Op3) (w:World) (hE:EntAt E v w) (hr:Row w u l.length (opc l)) (hl:l.length≤1000) (hla:E.args.length≤1000) :
 Calls prog 139 #[cP E v,eU m u] w fun e w'=>e=.returned (.bool (cT E (m,l)))∧Below w.heap.size w w':=by
 obtain⟨R,hR⟩:∃ R,cT E (m,l)=R:=⟨_,rfl⟩;rw[hR];unfold cT at hR;dsimp only at hR;have HR:=Hh hR;clear hR;obtain⟨page,op,mn,args,ex,al⟩:=E;dsimp only at *;obtain⟨a,c,rfl,hcap,hop⟩:=hE.row.op;obtain⟨a2,c2,rfl,hcap2,hop2⟩:=hr.op;have HO:=Hh hop;have HO2:=Hh hop2;obtain⟨X,hX⟩:∃ X:ByteArray,⟨mn.toArray⟩=X:=⟨_,rfl⟩;obtain⟨Y,hY⟩:∃ Y:ByteArray,⟨m.toArray⟩=Y:=⟨_,rfl⟩;have hXY:(mn=m)=(X=Y):=by
  rw[←hX,←hY];apply propext
  constructor
  · intro h;rw[h]
  · intro h;have:=congrArg (·.data.toList) h;simpa using this
 have he:=eqK X Y;unfold eU cP;dsimp only;rw[hX,hY];have HXY:=Hh hXY;clear hop hop2 hE hr hX hY hXY;by_cases hm:X=Y
 · rw[decide_eq_true hm] at he;by_cases hlen:args.length=l.length
   · have hlb:((args.length:Int) != (l.length:Int))=false:=by simp;omega
     have HLEN:=Hh hlen;have HM:=Hh hm;clear hlen hm;go_enter func139,ntmps139
     go_wp2_with fail
     obtain⟨W0,hW0⟩:∃ W,(w.alloc (.cells #[.int .i64 page,.int .u8 op,.string X,.slice a args.length c,.string ⟨ex.toArray⟩,.bool al] 107)).alloc (.cells #[.string Y,.slice a2 l.length c2] 53)=W:=⟨_,rfl⟩;rw[hW0];have hb0:Below w.heap.size w W0:=by rw[←hW0];exact bl
     have hx1:W0.heap[w.heap.size]? = some (.cells #[.int .i64 page,.int .u8 op,.string X,.slice a args.length c,.string ⟨ex.toArray⟩,.bool al] 107 (0,0)):=by rw[←hW0];exact aE (aF _ _)
     have hx2:W0.heap[w.heap.size+1]? = some (.cells #[.string Y,.slice a2 l.length c2] 53 (0,0)):=by
      rw[←hW0]
      have:=aF (w.alloc (.cells #[.int .i64 page,.int .u8 op,.string X,.slice a args.length c,.string ⟨ex.toArray⟩,.bool al] 107)) (.cells #[.string Y,.slice a2 l.length c2] 53)
      rwa [World.size_alloc] at this
     have HBX:=Hh (fun W (hb:Below W0.heap.size W0 W)=>And.intro (aB hx1 hb (aA hx1)) (And.intro (aB hx2 hb (aA hx2)) (hb0.trans (hb.mono hb0.size))));clear hb0 hx1 hx2 hW0;go_loopw [5] (fun i wr=>∃ j:Nat,j≤l.length∧i=.int .i64 j∧Hid (Below W0.heap.size W0 wr)∧Hid (kB (args.take j)=kB (l.take j))) (fun i _=>l.length - (intOf i).toNat)
     case atStart=>exact⟨0,Nat.zero_le _,rfl,Hh br,Hh (by simp[kB])⟩
     case round =>
      obtain⟨j,hj,rfl,HB,HS⟩:=hrel;obtain⟨hx1,hx2,hbw⟩:=HBX.out wr HB.out;obtain⟨_,_,_,p3,_,_⟩:=(aN hx1).1;obtain⟨_,q1,_,_⟩:=aL hx2;have hl1:=aA hx1;have hl2:=aA hx2;have HBW:=Hh hbw;clear hx1 hx2;by_cases hlt:j<l.length
      · obtain⟨y,hy⟩:∃ y,l[j]? = some y:=⟨_,List.getElem?_eq_getElem hlt⟩;obtain⟨x,hx⟩:∃ x,args[j]? = some x:=⟨_,List.getElem?_eq_getElem (by have:=HLEN.out;omega)⟩;obtain⟨g,o,rfl,hg,hcs⟩:=HO.out (by rintro rfl;simp at hx);obtain⟨g2,o2,rfl,hg2,hcs2⟩:=HO2.out (by rintro rfl;simp at hy);obtain⟨k0,k1,_⟩:=hcs j x hx;obtain⟨n0,n1,_⟩:=hcs2 j y hy;have m0:=(hbw.cell (p:=⟨g,_,none⟩) hg).trans k0;have m1:=(hbw.cell (p:=⟨g,_,none⟩) hg).trans k1;have r0:=(hbw.cell (p:=⟨g2,_,none⟩) hg2).trans n0;have r1:=(hbw.cell (p:=⟨g2,_,none⟩) hg2).trans n1;have HX:=Hh hx;have HY:=Hh hy;have hgw:=Nat.lt_of_lt_of_le hg hbw.size;have hgw2:=Nat.lt_of_lt_of_le hg2 hbw.size;have hi0:(0:Int)≤(j:Int):=om
        have hi1:(j:Int)<(l.length:Int):=om
        have hi2:(j:Int)<(args.length:Int):=by have:=HLEN.out;omega
        obtain⟨x0,x1,x2⟩:=x;obtain⟨y0,y1,y2⟩:=y;dsimp only at m0 m1 r0 r1;clear hcs hcs2 k0 k1 n0 n1 hx hy hbw;by_cases h0:x0=y0
        · have hb0:(x0 != y0)=false:=by simp[h0]
          by_cases h1:x1=y1
          · have hb1:(x1 != y1)=false:=by simp[h1]
            have HN:=Hh (aID HLEN.out j _ _ HX.out HY.out HS.out h0 h1);clear h0 h1;go_wp2_with fail
            go_quiet (fail)
            go_wp2_with fail
            go_roundw
            case rel=>exact⟨j+1,om,by go_num,Hh (aHb HB.out _),HN⟩
            case measure=>simp[intOf];omega
          · have hb1:(x1 != y1)=true:=by simp[h1]
            have HN:=Hh (aIh j _ _ HX.out HY.out (.inr h1));have hr:R=false:=by rw[←HR.out];simp[HN.out]
            subst hr;clear h0 h1;go_wp2_with fail
            go_quiet (fail)
            go_wp2_with fail
            go_ret;exact⟨rfl,aHb HBW.out _⟩
        · have hb0:(x0 != y0)=true:=by simp[h0]
          have HN:=Hh (aIh j _ _ HX.out HY.out (.inl h0));have hr:R=false:=by rw[←HR.out];simp[HN.out]
          subst hr;clear h0;go_wp2_with fail
          go_quiet (fail)
          go_wp2_with fail
          go_ret;exact⟨rfl,aHb HBW.out _⟩
      · obtain rfl:j=l.length:=om
        have hs:=HS.out;rw[←HLEN.out,List.take_length,HLEN.out,List.take_length] at hs;have hr:R=true:=by rw[←HR.out,hs,decide_eq_true (HXY.out.symm ▸ HM.out)];simp
        subst hr;clear hs;go_wp2_with fail
        go_ret;exact⟨rfl,HBW.out⟩
   · have hlb:((args.length:Int) != (l.length:Int))=true:=by simp;omega
     have hr:R=false:=by
      rw[←HR.out]
      have:kB args≠kB l:=fun e=>hlen (by have h1:=congrArg List.length e;simpa[kB] using h1)
      simp[this]
     subst hr;clear hlen hm;go_enter func139,ntmps139
     go_wp2_with fail
     go_ret;exact⟨rfl,bl⟩
 · rw[decide_eq_false hm] at he;have hr:R=false:=by
    rw[←HR.out,decide_eq_false (show ¬ mn=m from fun e=>hm (HXY.out ▸ e))]
    rfl
   subst hr;clear hm;go_enter func139,ntmps139
   go_wp2_with fail
   go_ret;exact⟨rfl,bl⟩
theorem aHD (m:List UInt8) (v:Value) (l:List Op3) (w:World) (hr:Row w v l.length (opc l)) (hl:l.length≤1000) :
 Calls prog 137 #[eU m v] w fun e w'=>e=.returned (.int .i64 (if l.any Xw then 3 else 0))∧Below w.heap.size w w':=by
 obtain⟨R,hR⟩:∃ R,l.any Xw=R:=⟨_,rfl⟩;rw[hR];have HR:=Hh hR;clear hR;obtain⟨a,c,rfl,hcap,hop⟩:=hr.op;have HO:=Hh hop;unfold eU;clear hop hr;go_enter func137,ntmps137
 go_wp2_with fail
 obtain⟨W0,hW0⟩:∃ W,w.alloc (.cells #[.string ⟨m.toArray⟩,.slice a l.length c] 53)=W:=⟨_,rfl⟩;rw[hW0];have hb0:Below w.heap.size w W0:=by rw[←hW0];exact bl
 have hx2:W0.heap[w.heap.size]? = some (.cells #[.string ⟨m.toArray⟩,.slice a l.length c] 53 (0,0)):=by rw[←hW0];exact aF _ _
 have HBX:=Hh (fun W (hb:Below W0.heap.size W0 W)=>And.intro (aB hx2 hb (aA hx2)) (hb0.trans (hb.mono hb0.size)));clear hb0 hx2 hW0;go_loopw [3] (fun i wr=>∃ j:Nat,j≤l.length∧i=.int .i64 j∧Hid (Below W0.heap.size W0 wr)∧Hid ((l.take j).any Xw=false)) (fun i _=>l.length - (intOf i).toNat)
 case atStart=>exact⟨0,Nat.zero_le _,rfl,Hh br,Hh sm⟩
 case round =>
  obtain⟨j,hj,rfl,HB,HS⟩:=hrel;obtain⟨hx2,hbw⟩:=HBX.out wr HB.out;obtain⟨_,q1,_,_⟩:=aL hx2;have hl2:=aA hx2;have HBW:=Hh hbw;clear hx2;by_cases hlt:j<l.length
  · obtain⟨y,hy⟩:∃ y,l[j]? = some y:=⟨_,List.getElem?_eq_getElem hlt⟩;obtain⟨g,o,rfl,hg,hcs⟩:=HO.out (by rintro rfl;simp at hy);obtain⟨n0,n1,n2⟩:=hcs j y hy;have r0:=(hbw.cell (p:=⟨g,_,none⟩) hg).trans n0;have r1:=(hbw.cell (p:=⟨g,_,none⟩) hg).trans n1;have r2:=(hbw.cell (p:=⟨g,_,none⟩) hg).trans n2;have HY:=Hh hy;have hgw:=Nat.lt_of_lt_of_le hg hbw.size;have hi0:(0:Int)≤(j:Int):=om
    have hi1:(j:Int)<(l.length:Int):=om
    have HT:=Hh (show (l.take (j+1)).any Xw=Xw y by rw[List.take_add_one,hy,List.any_append,HS.out];simp)
    have HM:=Hh (fun (h:Xw y=true)=>(List.any_eq_true.2 ⟨y,List.mem_of_getElem? hy,h⟩:l.any Xw=true));obtain⟨y0,y1,y2⟩:=y;dsimp only at r0 r1 r2;clear hcs n0 n1 n2 hy hbw;cases hix:Xw (y0,y1,y2)
    · have HN:=Hh (HT.out.trans hix);unfold Xw at hix;simp only[Bool.or_eq_false_iff,Bool.and_eq_false_iff,decide_eq_false_iff_not] at hix;obtain⟨e2,e3⟩:=hix;have b2:(y0 == 2)=false:=beq_eq_false_iff_ne.2 e2;by_cases h3:3≤y0
      · by_cases h5:y0≤5
        · have h6:¬ y1=5∧¬ y1=6:=by
           rcases e3 with (h|h)|h
           · exact absurd h3 h
           · exact absurd h5 h
           · exact h
          have c5:(y1 == 5)=false:=beq_eq_false_iff_ne.2 h6.1;have c6:(y1 == 6)=false:=beq_eq_false_iff_ne.2 h6.2;have d3:decide ((3:Int)≤y0)=true:=decide_eq_true h3;have d5:decide (y0≤(5:Int))=true:=decide_eq_true h5;clear e2 e3 h3 h5 h6;go_wp2_with fail
          go_roundw
          case rel=>exact⟨j+1,om,by go_num,Hh (HB.out.alloc HB.out.size _),HN⟩
          case measure=>simp[intOf];omega
        · have d3:decide ((3:Int)≤y0)=true:=decide_eq_true h3;have d5:decide (y0≤(5:Int))=false:=decide_eq_false h5;clear e2 e3 h3 h5;go_wp2_with fail
          go_roundw
          case rel=>exact⟨j+1,om,by go_num,Hh (HB.out.alloc HB.out.size _),HN⟩
          case measure=>simp[intOf];omega
      · have d3:decide ((3:Int)≤y0)=false:=decide_eq_false h3;clear e2 e3 h3;go_wp2_with fail
        go_roundw
        case rel=>exact⟨j+1,om,by go_num,Hh (HB.out.alloc HB.out.size _),HN⟩
        case measure=>simp[intOf];omega
    · have hr:R=true:=by rw[←HR.out];exact HM.out hix
      subst hr;unfold Xw at hix;simp only[Bool.or_eq_true,Bool.and_eq_true,decide_eq_true_eq] at hix;by_cases e2:y0=2
      · subst e2;clear hix;go_wp2_with fail
        go_ret;exact⟨rfl,HBW.out.alloc HBW.out.size _⟩
      · obtain⟨⟨h3,h5⟩,h6⟩:=hix.resolve_left e2;have b2:(y0 == 2)=false:=beq_eq_false_iff_ne.2 e2;have d3:decide ((3:Int)≤y0)=true:=decide_eq_true h3;have d5:decide (y0≤(5:Int))=true:=decide_eq_true h5;clear hix e2 h3 h5;rcases h6 with rfl|rfl;all_goals
         go_wp2_with fail
         go_ret;exact⟨rfl,HBW.out.alloc HBW.out.size _⟩
  · obtain rfl:j=l.length:=om
    have hs:=HS.out;rw[List.take_length] at hs;obtain rfl:R=false:=by rw[←HR.out,hs]
    clear hs;go_wp2_with fail
    go_ret;exact⟨rfl,HBW.out⟩
theorem aIQ (m:List UInt8) (v:Value) (l:List Op3) (w:World) (hr:Row w v l.length (opc l)) (hl:l.length≤1000) :
 Calls prog 138 #[eU m v] w fun e w'=>e=.returned (.int .i64 (if l.any Xw then 6 else 2))∧Below w.heap.size w w':=by
 have hf:∀ W,Below w.heap.size w W→Calls prog 137 #[eU m v] W fun e w'=>e=.returned (.int .i64 (if l.any Xw then 3 else 0))∧Below w.heap.size w w':=fun W hW=>by
  refine (aHD m v l W (hr.below hW) hl).mono ?_;rintro e w1 ⟨he,hb⟩;exact⟨he,hW.trans (hb.mono hW.size)⟩
 obtain⟨R,hR⟩:∃ R,l.any Xw=R:=⟨_,rfl⟩;rw[hR] at hf ⊢;have HF:=Hh hf;clear hf hR hr;unfold eU at HF ⊢;go_enter func138,ntmps138
 cases R
 all_goals
  go_wp2_with fail
  (with_reducible refine (HF.out _ (bl)).mono ?_);rintro e w1 ⟨rfl,hb1⟩;go_wp2_with fail
  go_ret;exact⟨rfl,hb1⟩
end Go.Proofs.YtoigglljnklhlaaGreatDoor
