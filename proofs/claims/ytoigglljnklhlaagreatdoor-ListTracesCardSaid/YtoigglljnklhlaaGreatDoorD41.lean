/- Joined. -/
import Derived.Test.YtoigglljnklhlaaGreatDoorD37
set_option maxHeartbeats 8000000
set_option maxRecDepth 100000
namespace Go.Proofs.YtoigglljnklhlaaGreatDoor
open Go.RowKit Go.Sort
open Go.Proofs.Tryz
theorem aNl (xs:List Int) (a:Nat):(aBQ xs).take (a*1)=aBQ (xs.take a):=by simp[aBQ]
theorem aNm (xs:List Int) (a:Nat):(aBQ xs).drop (a*1)=aBQ (xs.drop a):=by simp[aBQ]
theorem aKM (xs:List Int):(aBQ xs).length=xs.length:=by simp[aBQ]
theorem aMU {w:World} {xs:List Int} {base co a:Nat} {ao:Option Addr} (h:w.ownsRow base 3 1 (.slice ao xs.length co) xs.length (aBQ xs)) (ha:a≤xs.length):eR w (.slice ao a co) a (aBQ (xs.take a)):=by
 rw[←aNl];exact aMC h ha
theorem aMV {w:World} {xs:List Int} {base co a:Nat} {ao:Option Addr} (h:w.ownsRow base 3 1 (.slice ao xs.length co) xs.length (aBQ xs)) (ha:a≤xs.length) :
 eR w (.slice (if co=a then ao else ao.map (·.add a)) (xs.length - a) (co - a)) (xs.length - a) (aBQ (xs.drop a)):=by
 have:=aNG h ha
 rw[aNm,Nat.mul_one] at this;exact this
theorem aMo {w:World} {g:Nat} {a:Value} {T:TypeId} (h:w.heap[g]? = some (Obj.cells #[a] T (0,0))):∀ (j:Nat) (u:Value),[a][j]? = some u→w.cell? ((⟨g,0,none⟩:Addr).add j)=some u:=fun j u hj=>by
 rw[bD,Xb,aC h j,←hj];simp
theorem aMp (x:Int):∀ u∈[Value.int .i64 x],u.oneCell'=true:=fun u hu=>by
 rw[Yd] at hu;subst hu;rfl
theorem aMc (l:List Int) (v:Value) (w:World) (hv:Row w v l.length (aBQ l)) (hl:l.length≤100000) :
 Calls prog 78 #[v] w fun e w'=>∃ v',e=.returned v'∧Row w' v' (aKK l).length (aBQ (aKK l))∧Below w w w':=by
 obtain⟨i0,hi,hz0,hz1,hz2⟩:=info_parts Tryz.infoInt;have HROW:=Hh hv;obtain⟨al,cl,rfl,hcl,_⟩:=hv;have hcc:(l.length:Int)≤(cl:Int):=om
 clear hcl;go_enter func78,ntmps78
 go_wp2_with fail
 go_loopw [3,4] (fun t i wr=>∃ (k:Nat) (ao:Option Addr) (co:Nat) (xs:List Int),k≤l.length∧i=.int .i64 k∧t=.slice ao xs.length co∧Hid (wr.ownsRow w 3 1 (.slice ao xs.length co) xs.length (aBQ xs))∧Hid (xs=aKK (l.take k))∧xs.length≤k∧Hid (Below w w wr)) (fun _ i _=>l.length - (intOf i).toNat)
 case atStart=>exact⟨0,none,0,[],Qi _,rfl,rfl,Hh (Xa _ _ _ _),Hh (by simp[aKK]),Qk _,Hh br⟩
 case round =>
  obtain⟨k,ao,co,xs,hk,rfl,rfl,HO,HXS,hxl,HB⟩:=hrel
  rename World=>wo
  by_cases hlt:k<l.length
  · obtain⟨x,hx⟩:∃ x,l[k]? = some x:=⟨_,Qb hlt⟩;obtain⟨a1,c1,e1,hc1,hh⟩:=HROW.out.below HB.out;cases e1
    obtain⟨gl,ol,rfl,hgl,hcs⟩:=hh (by intro e;have h1:=congrArg List.length e;rw[aKM,Qz] at h1;omega);have k0:wo.cell? ⟨gl,ol+k,none⟩=some (.int .i64 x):=by
     have:=hcs k (by rw[aKM];exact hlt)
     rw[this];simp[aBQ,hx]
    have hk0:(0:Int)≤(k:Int):=om
    have hk1:(k:Int)<(l.length:Int):=om
    have hasc:xs.Pairwise (·<·):=by rw[HXS.out];exact aLU _
    have hnx:aKK (l.take (k+1))=aKH x xs:=by rw[Qo,hx,Zo,aMD,HXS.out]
    have HNX:=Hh hnx;have HASC:=Hh hasc;have hwsz:=HB.out.size;have hltl:=hgl;clear hh hcs hx hasc hnx;have hcoN:xs.length≤co:=by
     rcases aLu HO.out with⟨_,h2,_⟩|⟨_,_,_,h2,_⟩
     · rw[h2];exact Qi _
     · exact h2
    go_wp2_with fail
    go_loopw [5] (fun t W=>∃ a:Nat,a≤xs.length∧t=.int .i64 a∧Hid (Below wo wo W)∧Hid (∀ y∈xs.drop a,x<y)) (fun t _=>(intOf t).toNat)
    case atStart=>exact⟨xs.length,Qk _,rfl,Hh br,Hh (fun y hy=>by simp at hy)⟩
    case round =>
     obtain⟨a,ha,rfl,HBL,HHI⟩:=hrel;have c0:=(HBL.out.cell (p:=⟨gl,ol+k,none⟩) hltl).trans k0;have hszl:=HBL.out.size;have hltr:gl<wr:=Qj hltl hszl;have haI:(a:Int)≤(xs.length:Int):=om
     have haC:(a:Int)≤(co:Int):=om
     have ha0:(0:Int)≤(a:Int):=om
     have HOW:=Hh (bK HO.out HBL.out);clear k0;have HDR:=Hh (fun n:Nat=>(show Below wr wr (wr.drewN n) from⟨rfl,rfl,rfl,Qk _,fun _ _=>rfl⟩))
     have hcase:(∃ q y,a=q+1∧xs[q]? = some y∧x≤y)∨(a=0∨∃ q y,a=q+1∧xs[q]? = some y∧y<x):=by
      rcases Nat.eq_zero_or_pos a with h|h
      · exact .inr (.inl h)
      · obtain⟨y,hy⟩:∃ y,xs[a - 1]? = some y:=⟨_,Qb om⟩;rcases Int.lt_or_le y x with h1|h1
        · exact .inr (.inr ⟨a - 1,y,om,hy,h1⟩)
        · exact .inl ⟨a - 1,y,om,hy,h1⟩
     rcases hcase with⟨q,y,hq,hy,hxy⟩|hcase
     · obtain⟨go,rfl,_,_,hgo,hcs⟩:=(aLu HOW.out).resolve_left (by rintro⟨_,h,_⟩;have:=(Qd.1 hy).1;omega)
       have d0:wr.cell? ⟨go,q,none⟩=some (.int .i64 y):=hcs q _ (by simp[aBQ,hy]);have hqt:((a:Int) - 1).toNat=q:=om
       have hq0:(0:Int)≤(a:Int) - 1:=om
       have hq1:(a:Int) - 1<(xs.length:Int):=om
       have hqp:decide ((0:Int)<(a:Int))=true:=Qh om;have hqp2:decide (0<a)=true:=Qh om;have HQ:=Hh hq;by_cases hne:x=y
       · subst hne;have g1:decide (x<x)=false:=Qg om;have g2:(x != x)=false:=by simp
         have g3:((a:Int) == 0)=false:=by simp;omega
         have g4:(a == 0)=false:=by simp;omega
         have HIN:=Hh (show aKH x xs=xs from aMY x xs HASC.out (Qu hy))
         clear hq hy hcs hxy;go_wp2_with fail
         go_quiet (fail)
         go_wp2_with fail
         go_quiet (fail)
         go_wp2_with fail
         go_roundw
         case rel=>exact⟨k+1,some ⟨go,0,none⟩,co,xs,om,by go_num,rfl,Hh (bK HOW.out (HDR.out _)),Hh (by rw[HNX.out,HIN.out]),om,Hh (HB.out.trans ((HBL.out.trans ((HDR.out _).mono hszl)).mono hwsz))⟩
         case measure=>simp[intOf];omega
       · have g1:decide (x<y)=true:=Qh om;have HHI2:Hid (∀ z∈xs.drop q,x<z):=Hh fun z hz=>by
          obtain⟨hql,hqe⟩:=Qd.1 hy;rw[Yj hql] at hz;rcases Xg.1 hz with rfl|hz
          · rw[hqe];omega
          · exact HHI.out z (by rw[hq];exact hz)
         clear hq hy hcs hxy hne;go_wp2_with fail
         go_quiet (fail)
         go_wp2_with fail
         go_roundw
         case rel=>exact⟨q,by have:=HQ.out;omega,by rw[show ((a:Int) - 1)=(q:Int) by have:=HQ.out;omega],Hh (HBL.out.trans ((HDR.out _).mono hszl)),HHI2⟩
         case measure=>simp[intOf];have:=HQ.out;omega
     · have HIN:=Hh (show aKH x xs=xs.take a++x::xs.drop a from aOu HASC.out HHI.out (hcase.imp id fun⟨q,y,h1,h2,h3⟩=>⟨y,by rw[h1];exact h2,h3⟩))
       have hcase2:(a=0∧decide ((0:Int)<(a:Int))=false∧decide (0<a)=false)∨∃ q y go,a=q+1∧ao=some ⟨go,0,none⟩∧go<wr.heap.size∧wr.cell? ⟨go,q,none⟩=some (.int .i64 y)∧decide (x<y)=false∧(y != x)=true∧((a:Int) == 0)=false∧((a:Int) - 1).toNat=q∧(0:Int)≤(a:Int) - 1∧(a:Int) - 1<(xs.length:Int)∧decide ((0:Int)<(a:Int))=true∧decide (0<a)=true:=by
        rcases hcase with h|⟨q,y,h1,hy,h3⟩
        · exact .inl ⟨h,Qg om,Qg om⟩
        · obtain⟨go,hgo1,_,_,hgo,hcs⟩:=(aLu HOW.out).resolve_left (by rintro⟨_,h,_⟩;have:=(Qd.1 hy).1;omega)
          exact .inr ⟨q,y,go,h1,hgo1,hgo,hcs q _ (by simp[aBQ,hy]),Qg om,by simp;omega,by simp;omega,om,om,om,Qh om,Qh om⟩
       clear hcase;rcases hcase2 with⟨hz,hqp,hqp2⟩|⟨q,y,go,hq,hgo1,hgo,d0,g1,g2,g3,hqt,hq0,hq1,hqp,hqp2⟩;all_goals
        (first|(have g3:((a:Int) == 0)=true:=by simp;omega)|subst hgo1)
        (first|clear hz|clear hq)
        go_wp2_with fail
        go_quiet (fail)
        go_wp2_with fail
        go_quiet (fail)
        go_wp2_with fail
        (first|(generalize hao:(some ⟨go,0,none⟩:Option Addr)=ao at HOW ⊢;clear hqt hq0 hq1 g1 g2 d0 hgo hqp hqp2 g3)|clear hqp hqp2 g3)
        generalize hwq:World.drewN (World.drewN wr _) _=wq;have hbq:Below wr wr wq:=by rw[←hwq];exact⟨rfl,rfl,rfl,Qk _,fun _ _=>rfl⟩
        have q0:=(hbq.cell (p:=⟨gl,ol+k,none⟩) hltr).trans c0;have hltq:gl<wq:=Qj hltr hbq.size;have HBQ:=Hh (HB.out.trans ((HBL.out.trans (hbq.mono hszl)).mono hwsz));have HOQ:=Hh (bK HOW.out hbq);have hszq:=HBQ.out.size;clear hwq hbq c0;go_region_law (first
         | (refine aR (by rfl) _ _ 44 (by rfl) wq.heap.size 3 i0 (.int .i64 0) 1 8 underlying44 hi hz0 hz1 hz2 rfl dc _ 0 [] (by rfl) (aKY (by first|exact aF _ _|exact aLa _ _ _|exact aKZ _ _ _) om) _ a (aBQ (xs.take a)) (by rfl) (aMU (bK HOQ.out (bl)) ha) (by rw[aKM,Qt,Yz ha,Nat.mul_one]) (aCk _) (by unfold maxLen;omega) om (Below.size (show Below wq wq _ from bl)) ?_;intro v2 x2 hown2 hgrow2 hnil2;simp only[Xb,Ye] at hown2;have hb2:Below wq wq x2:=Below.grown (show Below wq wq _ from bl) hgrow2 (Below.size (show Below wq wq _ from bl)) (fun q hq=>by have h:=Xi hq;dsimp only at h;omega);have n0:=(hb2.cell (p:=⟨gl,ol+k,none⟩) hltq).trans q0)
         | (refine aR (by rfl) _ _ 44 (by rfl) wq.heap.size 3 i0 (.int .i64 0) 1 8 underlying44 hi hz0 hz1 hz2 rfl dc v2 a (aBQ (xs.take a)) (by rfl) (bK hown2 (bl)) _ 1 [.int .i64 x] (by rfl) (.inr ⟨_,1,rfl,aMo (by first|exact aF x2 _|exact (hgrow2.block _ (by show _<(Array.push (Array.push _ _) _).size;simp) (by simp[Value.ownBlock])).trans (aKZ _ _ _)|exact (hgrow2.block _ (by show _<(Array.push (Array.push _ _) _).size;simp;omega) (by simp[Value.ownBlock])).trans (aLa _ _ _))⟩) (by rfl) (aMp x) (by unfold maxLen;omega) om (Qn hb2.size (Below.size (show Below x2 x2 _ from bl))) ?_;intro v3 x3 hown3 hgrow3 hnil3;have hb3:Below wq wq x3:=Below.grown (hb2.trans (Below.mono (show Below x2 x2 _ from bl) hb2.size)) hgrow3 (Qn hb2.size (Below.size (show Below x2 x2 _ from bl))) (aKO hown2))
         | (refine aR (by rfl) _ _ 44 (by rfl) wq.heap.size 3 i0 (.int .i64 0) 1 8 underlying44 hi hz0 hz1 hz2 rfl dc v3 (a+1) (aBQ (xs.take a)++[.int .i64 x]) (by rfl) (bK hown3 (bl)) _ (xs.length - a) (aBQ (xs.drop a)) (by rfl) (aMV (bK HOQ.out (hb3.trans (Below.mono (show Below x3 x3 _ from bl) hb3.size))) ha) (by rw[aKM,Xm,Nat.mul_one]) (aCk _) (by unfold maxLen;omega) om (Qn hb3.size (Below.size (show Below x3 x3 _ from bl))) ?_;intro v4 x4 hown4 hgrow4 hnil4;have hb4:Below wq wq x4:=Below.grown (hb3.trans (Below.mono (show Below x3 x3 _ from bl) hb3.size)) hgrow4 (Qn hb3.size (Below.size (show Below x3 x3 _ from bl))) (aKO hown3)))
        all_goals
         have hlen:(aKH x xs).length=a+1+(xs.length - a):=by rw[HIN.out,Qc,Qp,Qt,Xm,Yz ha];omega
         have hz5:aBQ (xs.take a)++[Value.int .i64 x]++aBQ (xs.drop a)=aBQ (aKH x xs):=by rw[HIN.out];simp[aBQ]
         rw[hz5,←hlen] at hown4;have hil:=aLK x xs;obtain⟨a4,c4,rfl⟩:=aI hown4;have HO4:=Hh (bR hown4 hszq);have HB4:=Hh (HBQ.out.trans (hb4.mono hszq));have HIL:=Hh hil;clear hlen hz5 hown4 hgrow4 hnil4 hb4 hown3 hgrow3 hnil3 hb3 hown2 hgrow2 hnil2 hb2 n0 q0 hil;go_wp2_with fail
         go_roundw
         case rel=>exact⟨k+1,a4,c4,aKH x xs,om,by go_num,rfl,HO4,Hh HNX.out.symm,by have:=HIL.out;omega,HB4⟩
         case measure=>simp[intOf];omega
  · obtain rfl:k=l.length:=om
    go_wp2_with fail
    go_ret;obtain rfl:xs=aKK l:=by rw[HXS.out,Qy]
    exact⟨_,rfl,Row.of_owns HO.out,HB.out⟩
end Go.Proofs.YtoigglljnklhlaaGreatDoor
