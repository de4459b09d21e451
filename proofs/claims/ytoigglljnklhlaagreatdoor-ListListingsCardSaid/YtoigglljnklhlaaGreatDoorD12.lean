/- Joined. -/
import Derived.Test.YtoigglljnklhlaaGreatDoorD01
import Derived.Shelf.Abstract
set_option maxHeartbeats 8000000
set_option maxRecDepth 100000
namespace Go.Proofs.YtoigglljnklhlaaGreatDoor
open Go.RowKit Go.Sort
def lkL (f:Op3→Op3) (l:List Op3) (k:Nat):List Op3:=(l.take k).map f++l.drop k
theorem bY (f:Op3→Op3) (l:List Op3) (k:Nat):(lkL f l k).length=l.length:=by
 unfold lkL;rw[List.length_append,List.length_map,List.length_take,List.length_drop];omega
theorem nF {f:Op3→Op3} {l:List Op3} {k:Nat} {x:Op3} (h:l[k]? = some x):(lkL f l k)[k]? = some x:=by
 have hk:=(List.getElem?_eq_some_iff.1 h).1;unfold lkL;rw[List.getElem?_append_right (by rw[List.length_map,List.length_take];omega),List.length_map,List.length_take,Nat.min_eq_left (Nat.le_of_lt hk),Nat.sub_self,List.getElem?_drop,Nat.add_zero,h]
theorem kG {f:Op3→Op3} {l:List Op3} {k:Nat} {x y:Op3} (h:l[k]? = some x) (hy:f x=y):(lkL f l k).set k y=lkL f l (k+1):=by
 have hk:=(List.getElem?_eq_some_iff.1 h).1;unfold lkL;rw[List.take_add_one,h,List.set_append,if_neg (by rw[List.length_map,List.length_take];omega),List.length_map,List.length_take,Nat.min_eq_left (Nat.le_of_lt hk),Nat.sub_self,List.drop_eq_getElem_cons hk,(List.getElem?_eq_some_iff.1 h).2];simp[hy]
theorem cJ {f:Op3→Op3} {l:List Op3} {k:Nat} {x:Op3} (h:l[k]? = some x) (hy:f x=x):lkL f l k=lkL f l (k+1):=by
 have hk:=(List.getElem?_eq_some_iff.1 h).1;unfold lkL;rw[List.take_add_one,h,List.drop_eq_getElem_cons hk,(List.getElem?_eq_some_iff.1 h).2];simp[hy]
end Go.Proofs.YtoigglljnklhlaaGreatDoor
namespace Go.Proofs.YtoigglljnklhlaaGreatDoor
open Go.RowKit Go.Sort
open Go.Proofs.Tryz
theorem qG (v1 v2:Value) (a b:List Op3) (w:World) (h1:Row w v1 a.length (opc a)) (h2:Row w v2 b.length (opc b)) (hl:a.length≤1000000) (hl2:b.length≤1000000) :
 Calls prog 205 #[v1,v2] w fun e w'=>e=.returned (.bool (decide (a=b)))∧Below w.heap.size w w':=by
 obtain⟨a1,c1,rfl,hc1,h1⟩:=h1.op;obtain⟨a2,c2,rfl,hc2,h2⟩:=h2.op;by_cases hlen:a.length=b.length
 · have hle:((a.length:Int) != (b.length:Int))=false:=by simp;omega
   by_cases ha:a=[]
   · subst ha;obtain rfl:b=[]:=List.eq_nil_of_length_eq_zero hlen.symm;clear h1 h2 hle hlen;go_enter func205,ntmps205
     go_wp2_with fail
     refine wp_loop_rounds 1 ?_;rw[rounds_succ];go_wp2_with fail
     go_ret;exact⟨rfl,Below.refl _ _⟩
   · obtain⟨g1,o1,rfl,hg1,h1⟩:=h1 ha;obtain⟨g2,o2,rfl,hg2,h2⟩:=h2 (by intro e;apply ha;rw[e] at hlen;exact List.eq_nil_of_length_eq_zero hlen);have H1:=Hh h1;clear h1;have H2:=Hh h2;clear h2;have Ha:=Hh ha;clear ha;have Hlen:=Hh hlen;clear hlen;go_enter func205,ntmps205
     go_wp2_with fail
     go_loopw [5,13] (fun _ i wr=>∃ j:Nat,j≤a.length∧i=.int .i64 j∧Below w.heap.size w wr∧a.take j=b.take j) (fun _ i _=>a.length - (intOf i).toNat)
     case atStart=>exact⟨0,Nat.zero_le _,rfl,Below.refl _ _,rfl⟩
     case round =>
      obtain⟨j,hj,rfl,hbel,htk⟩:=hrel;have Htk:=Hh htk;clear htk;by_cases hlt:j<a.length
      · obtain⟨⟨x0,x1,x2⟩,hx⟩:∃ x,a[j]? = some x:=⟨_,List.getElem?_eq_getElem hlt⟩;obtain⟨⟨y0,y1,y2⟩,hy⟩:∃ y,b[j]? = some y:=⟨_,List.getElem?_eq_getElem (by have:=Hlen.out;omega)⟩;obtain⟨cx0,cx1,cx2⟩:=H1.out j _ hx;obtain⟨cy0,cy1,cy2⟩:=H2.out j _ hy;rw[←hbel.cell (p:=⟨_,_,none⟩) hg1] at cx0 cx1 cx2;rw[←hbel.cell (p:=⟨_,_,none⟩) hg2] at cy0 cy1 cy2;have Hx:=Hh hx;clear hx;have Hy:=Hh hy;clear hy;have HBEL:=Hh hbel;clear hbel;have hi0:(0:Int)≤(j:Int):=om
        have hi1:(j:Int)<(a.length:Int):=om
        have hi2:(j:Int)<(b.length:Int):=by have:=Hlen.out;omega
        by_cases e0:x0=y0
        · by_cases e1:x1=y1
          · by_cases e2:x2=y2
            · subst e0 e1 e2;go_wp2_with fail
              go_region
              all_goals
               go_wp2_with fail
               go_roundw
              case rel=>exact⟨j+1,om,by go_num,HBEL.out.drew,by rw[List.take_add_one,List.take_add_one,Htk.out,Hx.out,Hy.out]⟩
              case measure=>simp[intOf];omega
            · subst e0 e1;go_wp2_with fail
              go_region
              all_goals
               go_wp2_with fail
               go_ret;exact⟨by rw[decide_eq_false (fun e=>e2 (by have h3:=Hx.out;rw[e,Hy.out] at h3;cases h3;rfl))];rfl,HBEL.out.drew⟩
          · subst e0;go_wp2_with fail
            go_region
            all_goals
             go_wp2_with fail
             go_ret;exact⟨by rw[decide_eq_false (fun e=>e1 (by have h3:=Hx.out;rw[e,Hy.out] at h3;cases h3;rfl))];rfl,HBEL.out.drew⟩
        · go_wp2_with fail
          go_region
          all_goals
           go_wp2_with fail
           go_ret;exact⟨by rw[decide_eq_false (fun e=>e0 (by have h3:=Hx.out;rw[e,Hy.out] at h3;cases h3;rfl))];rfl,HBEL.out.drew⟩
      · obtain rfl:j=a.length:=om
        have hab:a=b:=by
         have:=Htk.out
         rw[List.take_length,Hlen.out,List.take_length] at this;exact this
        have Hab:=Hh hab;clear hab;have HBEL:=Hh hbel;clear hbel;go_wp2_with fail
        go_ret;exact⟨by rw[decide_eq_true Hab.out];rfl,HBEL.out⟩
 · have hle:((a.length:Int) != (b.length:Int))=true:=by rw[bne_iff_ne];omega
   have hr:decide (a=b)=false:=decide_eq_false (fun e=>hlen (by rw[e]));rw[hr];clear h1 h2 hlen hr;go_enter func205,ntmps205
   go_wp2_with fail
   go_ret;exact⟨rfl,Below.refl _ _⟩
def pM (l:List Op3) (x:Op3):Int:=match l.findIdx? (fun o=>o == x) with|some i=>(i:Int)|none=>-1
theorem Tg {l:List Op3} {x:Op3} (h:x∉l):pM l x=-1:=by
 unfold pM;rw[List.findIdx?_eq_none_iff.2 (fun y hy=>by rw[beq_eq_false_iff_ne];rintro rfl;exact h hy)]
theorem Th {l:List Op3} {x:Op3} {j:Nat} (h:x∉l.take j) (hj:l[j]? = some x):pM l x=j:=by
 unfold pM;have hlt:=(List.getElem?_eq_some_iff.1 hj).1;rw[List.findIdx?_eq_some_iff_getElem.2 ⟨hlt,by have:=(List.getElem?_eq_some_iff.1 hj).2;rw[this];simp,fun i hi=>by
  rw[Bool.not_eq_true,beq_eq_false_iff_ne];intro e;apply h
  rw[←e];exact List.mem_take_iff_getElem.2 ⟨i,om,rfl⟩⟩]
theorem jK {l:List Op3} {j:Nat} {x y:Op3} (h:x∉l.take j) (hj:l[j]? = some y) (hne:x≠y):x∉l.take (j+1):=by
 rw[List.take_add_one,hj];simp only[Option.toList,List.mem_append,List.mem_singleton];rintro (h1|h1)
 · exact h h1
 · exact hne h1
theorem vB (v1:Value) (l:List Op3) (x0 x1 x2:Int) (w:World) (h1:Row w v1 l.length (opc l)) (hl:l.length≤1000000) :
 Calls prog 252 #[v1,.agg #[.int .i64 x0,.int .i64 x1,.int .i64 x2]] w fun e w'=>e=.returned (.int .i64 (pM l (x0,x1,x2)))∧Below w.heap.size w w':=by
 obtain⟨a1,c1,rfl,hc1,h1⟩:=h1.op;have H1:=Hh h1;clear h1;go_enter func252,ntmps252
 go_wp2_with fail
 go_loopw [5,8] (fun _ i wr=>∃ j:Nat,j≤l.length∧i=.int .i64 j∧Below (w.heap.size+1) (w.alloc (.cells #[.int .i64 x0,.int .i64 x1,.int .i64 x2] 144)) wr∧(x0,x1,x2)∉l.take j) (fun _ i _=>l.length - (intOf i).toNat)
 case atStart=>exact⟨0,Nat.zero_le _,rfl,Below.refl _ _,by simp⟩
 case round =>
  obtain⟨j,hj,rfl,hbel,hno⟩:=hrel;have Hno:=Hh hno;clear hno;have HBW:Below w.heap.size w wr:=Below.trans (b:=w.alloc (.cells #[.int .i64 x0,.int .i64 x1,.int .i64 x2] 144)) (bl) (hbel.mono om);have HBW':=Hh HBW;clear HBW;have HBW:=HBW';clear HBW';by_cases hlt:j<l.length
  · obtain⟨⟨y0,y1,y2⟩,hy⟩:∃ y,l[j]? = some y:=⟨_,List.getElem?_eq_getElem hlt⟩;obtain⟨g,o,rfl,hg,hc⟩:=H1.out (by intro e;rw[e] at hlt;exact absurd hlt (Nat.not_lt_zero _))
    obtain⟨cy0,cy1,cy2⟩:=hc j _ hy;clear hc;rw[←HBW.out.cell (p:=⟨_,_,none⟩) hg] at cy0 cy1 cy2;have bx0:wr.cell? ⟨w.heap.size,0,none⟩=some (.int .i64 x0):=by rw[hbel.cell (p:=⟨w.heap.size,0,none⟩) (Nat.lt_succ_self _)];simp[go_sem]
    have bx1:wr.cell? ⟨w.heap.size,1,none⟩=some (.int .i64 x1):=by rw[hbel.cell (p:=⟨w.heap.size,1,none⟩) (Nat.lt_succ_self _)];simp[go_sem]
    have bx2:wr.cell? ⟨w.heap.size,2,none⟩=some (.int .i64 x2):=by rw[hbel.cell (p:=⟨w.heap.size,2,none⟩) (Nat.lt_succ_self _)];simp[go_sem]
    have Hy:=Hh hy;clear hy;have HBEL:=Hh hbel;clear hbel;have hi0:(0:Int)≤(j:Int):=om
    have hi1:(j:Int)<(l.length:Int):=om
    by_cases e0:x0=y0
    · by_cases e1:x1=y1
      · by_cases e2:x2=y2
        · subst e0 e1 e2;go_wp2_with fail
          go_region
          all_goals
           go_wp2_with fail
           go_ret;exact⟨by rw[Th Hno.out Hy.out];rfl,HBW.out.drew⟩
        · subst e0 e1;go_wp2_with fail
          go_region
          all_goals
           go_wp2_with fail
           go_roundw
          case rel=>exact⟨j+1,om,by go_num,HBEL.out.drew,jK Hno.out Hy.out (fun e=>e2 (by cases e;rfl))⟩
          case measure=>simp[intOf];omega
      · subst e0;go_wp2_with fail
        go_region
        all_goals
         go_wp2_with fail
         go_roundw
        case rel=>exact⟨j+1,om,by go_num,HBEL.out.drew,jK Hno.out Hy.out (fun e=>e1 (by cases e;rfl))⟩
        case measure=>simp[intOf];omega
    · go_wp2_with fail
      go_region
      all_goals
       go_wp2_with fail
       go_roundw
      case rel=>exact⟨j+1,om,by go_num,HBEL.out.drew,jK Hno.out Hy.out (fun e=>e0 (by cases e;rfl))⟩
      case measure=>simp[intOf];omega
  · obtain rfl:j=l.length:=om
    have hno:=Hno.out;rw[List.take_length] at hno;have Hno2:=Hh hno;clear hno;go_wp2_with fail
    go_ret;exact⟨by rw[Tg Hno2.out];rfl,HBW.out⟩
end Go.Proofs.YtoigglljnklhlaaGreatDoor
