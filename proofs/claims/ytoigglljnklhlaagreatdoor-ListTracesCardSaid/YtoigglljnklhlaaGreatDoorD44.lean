/- Joined. -/
import Derived.Test.YtoigglljnklhlaaGreatDoorD42
import Derived.Test.YtoigglljnklhlaaGreatDoorD43
set_option maxHeartbeats 8000000
set_option maxRecDepth 100000
namespace Go.Proofs.YtoigglljnklhlaaGreatDoor
open Go.RowKit Go.Sort
open Go.Proofs.Tryz
def lW (l:List (Int × List UInt8)):Nat:=(l.map fun r=>min r.2.length 5000).sum
def tW (l:List (Int × List UInt8)):Bool:=decide (l.length≤60) && decide (lW l≤3000)
abbrev RgX:=(Int × List UInt8) × Value
def aPA (x:RgX):List Value:=[.int .i64 x.1.1,x.2]
def rgc (l:List RgX):List Value:=l.flatMap aPA
structure RgAt (w:World) (v:Value) (rs:List RgX):Prop where
 row:Row w v rs.length (rgc rs)
 has:∀ x∈rs,Row w x.2 x.1.2.length (aT x.1.2)
theorem RgAt.below {w w':World} {v:Value} {rs:List RgX} (h:RgAt w v rs) (hb:Below w w w'):RgAt w' v rs:=⟨h.row.below hb,fun x hx=>(h.has x hx).below hb⟩
theorem RgAt.get {w:World} {v:Value} {rs:List RgX} (h:RgAt w v rs):∃ a cap,v=.slice a rs.length cap∧rs.length≤cap∧(rs≠[]→∃ g o,a=some ⟨g,o,none⟩∧g<w.heap.size∧∀ i x,rs[i]? = some x →
 w.cell? ⟨g,o+i*2,none⟩=some (.int .i64 x.1.1)∧w.cell? ⟨g,o+i*2+1,none⟩=some x.2):=by
 obtain⟨a,cap,hv,hn,hh⟩:=h.row.structs aPA 2 (fun _=>rfl) dc;refine⟨a,cap,hv,hn,fun hne=>?_⟩;obtain⟨g,o,rfl,hg,hc⟩:=hh hne;exact⟨g,o,rfl,hg,fun i x hx=>⟨hc i x hx 0 dc,hc i x hx 1 dc⟩⟩
theorem Fb:∀ l:List (Int × List UInt8),lW l≤l.length*5000
 | []=>Qk _
 | r::l=>by
   have:=Fb l
   simp only[lW,Xt,List.sum_cons,Qp,Zc] at this ⊢;omega
theorem Fa (rs:List RgX) (v:Value) (w:World) (h:RgAt w v rs) (hl:rs.length≤maxLen):Calls prog 10 #[v] w fun e w'=>e=.returned (.bool (tW (rs.map Prod.fst)))∧w=w':=by
 obtain⟨a,c,rfl,hcap,hh⟩:=h.get;have HH:=Hh hh;have HA:=Hh h.has;have HL:=Hh hl;have hl2:(rs.length:Int)≤9223372036854775807:=by unfold maxLen at hl;omega
 clear h hh hl;go_enter func10,ntmps10
 go_wp2_with fail
 go_loopw [3,4] (fun s i wr=>wr=w∧∃ (j:Nat) (z:Int),j≤rs.length∧i=.int .i64 j∧s=.int .i64 z∧Hid (rs.length≤60→z=(lW ((rs.map Prod.fst).take j):Nat))) (fun _ i _=>rs.length - (intOf i).toNat)
 case atStart=>exact⟨rfl,0,0,Qi _,rfl,rfl,Hh (fun _=>rfl)⟩
 case round =>
  obtain⟨rfl,j,z,hj,rfl,rfl,HZ⟩:=hrel;by_cases hlt:j<rs.length
  · obtain⟨x,hx⟩:∃ x,rs[j]? = some x:=⟨_,Qb hlt⟩;obtain⟨g,o,rfl,hg,hcs⟩:=HH.out (by rintro rfl;exact absurd hlt (Qw _))
    obtain⟨k0,k1⟩:=hcs j x hx;obtain⟨ab,cb,hvb,hcb,_⟩:=HA.out x (Qu hx);have hst:lW ((rs.map Prod.fst).take (j+1))=lW ((rs.map Prod.fst).take j)+min x.1.2.length 5000:=by
     rw[Qo,Ya,hx];simp[lW]
    have hfl:=Fb ((rs.map Prod.fst).take j);have hll:((rs.map Prod.fst).take j).length≤rs.length:=by rw[Qt,Qs];omega
    rw[hvb] at k1;have hnx:rs.length≤60→wrap64 (z+((min x.1.2.length 5000:Nat):Int))=(lW ((rs.map Prod.fst).take (j+1)):Nat):=fun h60=>by
     have h1:=HZ.out h60;rw[hst,h1,Int.natCast_add];have h2:((rs.map Prod.fst).take j).length*5000≤60*5000:=Ze _ (Qn hll h60);exact IntWalk.wrap64_in _ om
    have HNX:=Hh hnx;obtain⟨⟨ad,bs⟩,vb⟩:=x;dsimp only at k0 k1 hcb HNX;have hi0:(0:Int)≤(j:Int):=om
    have hi1:(j:Int)<(rs.length:Int):=om
    clear hcs hx hst hfl hll hvb hnx;by_cases hm:bs.length≤5000
    · have hm1:(bs.length:Int)≤5000:=om
      have HM:=Hh (Yz hm);clear hm;go_wp2_with fail
      go_roundw
      case rel=>exact⟨trivial,j+1,_,om,by go_num,rfl,Hh (fun h60=>by have h:=HNX.out h60;rw[HM.out] at h;first|exact h|(rw[show min (bs.length:Int) 5000=((min bs.length 5000:Nat):Int) by omega];exact HNX.out h60))⟩
      case measure=>simp[intOf];omega
    · have hm1:(5000:Int)<(bs.length:Int):=om
      have HM:=Hh (Nat.min_eq_right (Nat.le_of_not_le hm));clear hm;go_wp2_with fail
      go_roundw
      case rel=>exact⟨trivial,j+1,_,om,by go_num,rfl,Hh (fun h60=>by have h:=HNX.out h60;rw[HM.out] at h;first|exact h|(rw[show min (bs.length:Int) 5000=((min bs.length 5000:Nat):Int) by omega];exact HNX.out h60))⟩
      case measure=>simp[intOf];omega
  · obtain rfl:j=rs.length:=om
    have htk:(rs.map Prod.fst).take rs.length=rs.map Prod.fst:=Xj sm;rw[htk] at HZ;have hfe:tW (rs.map Prod.fst)=(decide (rs.length≤60) && decide (lW (rs.map Prod.fst)≤3000)):=by unfold tW;rw[Qs]
    have HFE:=Hh hfe;clear htk hfe;by_cases h1:rs.length≤60
    · have hz:=HZ.out h1;subst hz;generalize lW (rs.map Prod.fst)=F at *;by_cases h2:F≤3000
      all_goals
       have h1i:decide ((rs.length:Int)≤60)=decide (rs.length≤60):=by simp;omega
       have h2i:decide ((F:Int)≤3000)=decide (F≤3000):=by simp;omega
       have H12:=Hh (And.intro h1 h2);rw[Qh h1] at h1i;first|rw[Qh h2] at h2i|rw[Qg h2] at h2i
       clear h1 h2;go_wp2_with fail
       go_ret;have h1:=H12.out.1;have h2:=H12.out.2;exact⟨by rw[HFE.out];simp[h1,h2],rfl⟩
    · have h1i:decide ((rs.length:Int)≤60)=false:=by simp;omega
      have H1:=Hh h1;clear h1 HZ;go_wp2_with fail
      go_ret;have h1:=H1.out;exact⟨by rw[HFE.out];simp[h1],rfl⟩
def aKD:List Cl→List (Int × List UInt8)→List Cl
 | C,[]=>C
 | C,r::l=>aKD (fZ C r.1 r.2) l
theorem qM:∀ (C:List Cl) (l:List (Int × List UInt8)) (r:Int × List UInt8),aKD C (l++[r])=fZ (aKD C l) r.1 r.2
 | C,[],r=>rfl
 | C,x::l,r=>by simp[aKD,qM]
theorem nL:∀ (l:List (Int × List UInt8)) (C:List Cl),Asc C→Asc (aKD C l)
 | [],_C,h=>h
 | _r::l,_C,h=>nL l _ (En h _ _)
theorem nK:∀ (l:List (Int × List UInt8)) (C:List Cl),(aKD C l).length≤C.length+(l.map fun r=>r.2.length).sum
 | [],C=>by simp[aKD]
 | r::l,C=>by
   have h1:=nK l (fZ C r.1 r.2);have h2:=Ml C r.1 r.2;simp only[aKD,Xt,List.sum_cons];omega
theorem Ez:∀ l:List (Int × List UInt8),lW l≤3000→(∀ r∈l,r.2.length≤3000)∧(l.map fun r=>r.2.length).sum≤3000:=by
 have key:∀ l:List (Int × List UInt8),lW l≤3000→(l.map fun r=>r.2.length).sum=lW l∧∀ r∈l,r.2.length≤3000:=by
  intro l;induction l with
  | nil=>intro _;exact⟨rfl,by simp⟩
  | cons r l ih =>
    intro h;simp only[lW,Xt,List.sum_cons] at h;obtain⟨h1,h2⟩:=ih (by simp only[lW];omega);simp only[lW] at h1;refine⟨by simp only[lW,Xt,List.sum_cons,h1];omega,fun q hq=>?_⟩
    rcases Xg.1 hq with rfl|hq
    · omega
    · exact h2 q hq
 intro l h;obtain⟨h1,h2⟩:=key l h;exact⟨h2,om⟩
def aPt (l:List (Int × List UInt8)) (w:World) (e:Ending) (w':World):Prop :=
 ∃ b v,e=.returned (.tuple #[.pointer (some ⟨b,0,none⟩),v])∧w.heap.size≤b∧ImgAt b (aKD [] l) w'∧w'.ownsRow w.heap.size 63 2 v (aKD [] l).length (clc (aKD [] l))∧Below w.heap.size w w'
theorem Ji (rs:List RgX) (v:Value) (w:World) (h:RgAt w v rs) (hT:TabB w) (hl:rs.length≤maxLen) :
 Calls prog 8 #[v] w fun e w'=>(tW (rs.map Prod.fst)=true→aPt (rs.map Prod.fst) w e w')∧(tW (rs.map Prod.fst)=false→e=.returned (.tuple #[.pointer none,zz])∧Below w w w'):=by
 have HFW:=Hh (Fa rs v w h hl);obtain⟨a,c,rfl,hcap,hh⟩:=h.get;have HH:=Hh hh;have HA:=Hh h.has;have HT:=Hh hT;cases hf:tW (rs.map Prod.fst)
 · rw[hf] at HFW;clear h hh hT hf;go_enter func8,ntmps8
   go_wp2_with fail
   (with_reducible refine HFW.out.mono ?_);rintro e w1 ⟨rfl,rfl⟩;go_wp2_with fail
   go_ret2;exact⟨(fun h=>by cases h),fun _=>⟨rfl,Below.refl _ _⟩⟩
 · have hfc:=hf;unfold tW at hfc;rw[Qe,Qf,Qf,Qs] at hfc;obtain⟨hr1,hr2⟩:=Ez _ hfc.2;have hr60:=hfc.1;rw[hf] at HFW;have HR1:=Hh hr1;have HR2:=Hh hr2;clear h hh hT hf hfc hr1 hr2;go_enter func8,ntmps8
   go_wp2_with fail
   (with_reducible refine HFW.out.mono ?_);rintro e w1 ⟨rfl,rfl⟩;go_wp2_with fail
   (with_reducible refine (Et _).mono ?_);rintro e w2 ⟨rfl,him,hb2⟩;have HB2:=Hh hb2;have HIM:=Hh him;clear hb2 him;go_wp2_with fail
   go_loopw [5,14] (fun o i wr=>∃ j:Nat,j≤rs.length∧i=.int .i64 j∧Hid (ImgAt w (aKD [] ((rs.map Prod.fst).take j)) wr)∧Hid (wr.ownsRow (w.heap.size+1) 63 2 o (aKD [] ((rs.map Prod.fst).take j)).length (clc (aKD [] ((rs.map Prod.fst).take j))))∧Hid (aKD [] ((rs.map Prod.fst).take j)=[]→o=.slice none 0 0)∧Hid (Below w w wr)) (fun _ i _=>rs.length - (intOf i).toNat)
   case atStart=>exact⟨0,Qi _,rfl,HIM,Hh (Xa _ _ _ _),Hh (fun _=>rfl),HB2⟩
   case round =>
    obtain⟨j,hj,rfl,HI,HO,HN,HB⟩:=hrel;obtain⟨ao,co,rfl⟩:=aI HO.out;have hbl:=nK ((rs.map Prod.fst).take j) [];have hsl:(((rs.map Prod.fst).take j).map fun r=>r.2.length).sum≤3000:=by
     refine Qn ?_ HR2.out
     conv=>rhs;rw[←Zm j (rs.map Prod.fst)]
     rw[Ym,List.sum_append];omega
    rw[Qz,Xb] at hbl;have hcl:(aKD [] ((rs.map Prod.fst).take j)).length≤3000:=Qn hbl hsl;have hasc:=nL ((rs.map Prod.fst).take j) [] ⟨List.Pairwise.nil,by simp⟩
    by_cases hlt:j<rs.length
    · obtain⟨x,hx⟩:∃ x,rs[j]? = some x:=⟨_,Qb hlt⟩;obtain⟨g,o,rfl,hg,hcs⟩:=HH.out (by rintro rfl;exact absurd hlt (Qw _))
      obtain⟨k0,k1⟩:=hcs j x hx;have hxr:=HA.out x (Qu hx);have hxm:x.1∈rs.map Prod.fst:=Zi (Qu hx);have hxl:=HR1.out _ hxm;have hst:aKD [] ((rs.map Prod.fst).take (j+1))=fZ (aKD [] ((rs.map Prod.fst).take j)) x.1.1 x.1.2:=by
       rw[Qo,Ya,hx];exact qM _ _ _
      obtain⟨⟨ad,bs⟩,vb⟩:=x;dsimp only at k0 k1 hxr hxl hst;obtain⟨ab,cb,rfl,hcb,_⟩:=id hxr;have HST:=Hh hst;have m0:=(HB.out.cell (p:=⟨g,o+j*2,none⟩) hg).trans k0;have m1:=(HB.out.cell (p:=⟨g,o+j*2+1,none⟩) hg).trans k1;have hgw:g<wr:=Qj hg HB.out.size;have hi0:(0:Int)≤(j:Int):=om
      have hi1:(j:Int)<(rs.length:Int):=om
      have hsz:w.heap.size<wr.heap.size:=HI.out.raw.lt;have HXR:=Hh hxr;have HASC:=Hh hasc;have HCL:=Hh hcl;have HXL:=Hh hxl;generalize aKD [] ((rs.map Prod.fst).take j)=C at *;clear hcs hx hxm hst hxr hbl hsl hasc hcl k0 k1 hxl;go_wp2_with fail
      have hal:Below wr wr (wr.alloc (.cells #[ad,.slice ab bs.length cb] 35)):=br.alloc lr _;have hbx:=aF wr (.cells #[ad,.slice ab bs.length cb] 35);have hbw:=HB.out.trans (hal.mono HB.out.size);(with_reducible refine (Eo w C ad bs (.slice ab bs.length cb) _ (HI.out.below hal hsz) (HT.out.below hbw) (HXR.out.below hbw) (by have:=HCL.out;omega) (by have:=HXL.out;omega)).mono ?_);rintro e w3 ⟨kk,rfl,him3,hk3⟩;have hbx3:=(hk3.block _ (aA hbx) om).trans hbx;have hb3:=bS hbw hbw.size hk3 lr;have ho3:=Kb.owns (bK HO.out hal) hk3 (fun e=>by have:=(HO.out.lt _ e).1;omega)
      have HIM3:=Hh him3;have HB3:=Hh hb3;have HO3:=Hh ho3;obtain⟨z0,z1,_,_⟩:=aL hbx3;have hlx:=aA hbx3;clear hal hbx hbw him3 hk3 hbx3 hb3 ho3 m0 m1;go_wp2_with fail
      (with_reducible refine (Gk C HASC.out (.slice ao C.length co) ad bs (.slice ab bs.length cb) (w.heap.size+1) _ HO3.out HN.out om (HXR.out.below HB3.out) (by have:=HCL.out;omega) (by have:=HXL.out;omega)).mono ?_);rintro e w4 ⟨v4,kq,rfl,ho4,hn4,hb4⟩;have HIM4:=Hh (HIM3.out.below hb4 HIM3.out.raw.lt);have HB4:=Hh (HB3.out.trans (hb4.mono HB3.out.size));have HO4:=Hh ho4;have HN4:=Hh hn4;clear hb4 ho4 hn4 z0 z1;go_wp2_with fail
      go_roundw
      case rel=>exact⟨j+1,om,by go_num,Hh (by rw[HST.out];exact HIM4.out),Hh (by rw[HST.out];exact HO4.out),Hh (by rw[HST.out];exact HN4.out),HB4⟩
      case measure=>simp[intOf];omega
    · obtain rfl:j=rs.length:=om
      have htk:(rs.map Prod.fst).take rs.length=rs.map Prod.fst:=Xj sm;rw[htk] at HI HO HN ⊢;clear hbl hsl hcl hasc htk;go_wp2_with fail
      go_ret2;exact⟨fun _=>⟨w,_,rfl,Qk _,HI.out,aP HO.out (Xn _),HB.out⟩,(fun h=>by cases h)⟩
def aLo (l:List (Int × List UInt8)):Nat:=(l.map fun r=>min r.2.length 1000).sum
theorem aMT:∀ l:List (Int × List UInt8),aLo l≤l.length*1000
 | []=>Qk _
 | r::l=>by
   have:=aMT l
   simp only[aLo,Xt,List.sum_cons,Qp,Zc] at this ⊢;omega
theorem aMk:∀ l:List (Int × List UInt8),aLo l≤200→lW l=aLo l∧(l.map fun r=>r.2.length).sum=aLo l
 | [],_=>⟨rfl,rfl⟩
 | r::l,h=>by
   simp only[aLo,lW,Xt,List.sum_cons] at h ⊢;have ih:=aMk l (by unfold aLo;omega);unfold aLo lW at ih;omega
theorem aOi {l:List (Int × List UInt8)} (hl:l.length≤20) (hs:aLo l≤200):tW l=true∧(aKD [] l).length≤200:=by
 obtain⟨h1,h2⟩:=aMk l hs;have h3:=nK l [];rw[Qz,Xb] at h3;unfold tW;rw[Qe,Qf,Qf];omega
theorem aLE {p:Prop} (h:p:=by
 go_wp2_with fail
 (with_reducible refine (HAL.out _ HB1.out).mono ?_);rintro e w2 ⟨rfl,hb2⟩;have HB2:=Hh (HB1.out.trans (hb2.mono HB1.out.size));clear hb2;go_wp2_with fail
 go_ret;exact⟨rfl,HB2.out⟩):p:=h
theorem aLA (rs:List RgX) (v:Value) (S:List Int) (u:Value) (w:World) (h:RgAt w v rs) (hl:rs.length≤maxLen) (hu:Row w u S.length (aBQ S)∧eR w u S.length (aBQ S)) (hSm:S.length≤maxLen) (hT:TabsA w) (hTB:TabB w) :
 Calls prog 6 #[v,u] w fun e w'=>e=.returned (.bool true)∧Below w w w':=by
 have HBU:=Hh (fun X (hb:Below w w X)=>Ji rs v X (h.below hb) (hTB.below hb) hl);have HAL:=Hh (fun X (hb:Below w w X)=>Up X (hT.below hb) (hTB.below hb));have HT:=Hh hT;have HTB:=Hh hTB;have HRS:=Hh h;have HUS:=Hh hu.1;have HSR:=Hh hu.2;obtain⟨a,c,rfl,hcap,_⟩:=h.get;obtain⟨au,cu,rfl,hcu,_⟩:=hu.1;have hl2:(rs.length:Int)≤9223372036854775807:=by unfold maxLen at hl;omega
 have hS2:(S.length:Int)≤9223372036854775807:=by unfold maxLen at hSm;omega
 have hc1:(rs.length:Int)≤(c:Int):=om
 have hc2:(S.length:Int)≤(cu:Int):=om
 clear h hl hu hSm hT hTB hcap hcu;go_enter func6,ntmps6
 go_wp2_with fail
 go_loopw [5,14] (fun s i wr=>∃ (j:Nat) (z:Int),j≤rs.length∧i=.int .i64 j∧s=.int .i64 z∧Hid (rs.length≤20→z=(aLo ((rs.map Prod.fst).take j):Nat))∧Hid (Below w w wr)) (fun _ i _=>rs.length - (intOf i).toNat)
 case atStart=>exact⟨0,0,Qi _,rfl,rfl,Hh (fun _=>rfl),Hh br⟩
 case round =>
  obtain⟨j,z,hj,rfl,rfl,HZ,HB⟩:=hrel;by_cases hlt:j<rs.length
  · obtain⟨x,hx⟩:∃ x,rs[j]? = some x:=⟨_,Qb hlt⟩;have hrw:=HRS.out.below HB.out;obtain⟨_,_,hv0,_,hh⟩:=hrw.get;cases hv0
    obtain⟨g,o,rfl,hg,hcs⟩:=hh (by rintro rfl;exact absurd hlt (Qw _))
    obtain⟨k0,k1⟩:=hcs j x hx;obtain⟨ab,cb,hvb,hcb,_⟩:=hrw.has x (Qu hx);have hst:aLo ((rs.map Prod.fst).take (j+1))=aLo ((rs.map Prod.fst).take j)+min x.1.2.length 1000:=by
     rw[Qo,Ya,hx];simp[aLo]
    have hfl:=aMT ((rs.map Prod.fst).take j);have hll:((rs.map Prod.fst).take j).length≤rs.length:=by rw[Qt,Qs];omega
    rw[hvb] at k1;have hnx:rs.length≤20→wrap64 (z+((min x.1.2.length 1000:Nat):Int))=(aLo ((rs.map Prod.fst).take (j+1)):Nat):=fun h60=>by
     have h1:=HZ.out h60;rw[hst,h1,Int.natCast_add];have h2:((rs.map Prod.fst).take j).length*1000≤20*1000:=Ze _ (Qn hll h60);exact IntWalk.wrap64_in _ om
    have HNX:=Hh hnx;obtain⟨⟨ad,bs⟩,vb⟩:=x;dsimp only at k0 k1 hcb HNX hvb;have hi0:(0:Int)≤(j:Int):=om
    have hi1:(j:Int)<(rs.length:Int):=om
    have HBN:=Hh (HB.out.trans (((Below.refl wr wr).alloc (o:=.cells #[ad,.slice ab bs.length cb] 35) lr).mono HB.out.size));clear hcs hx hst hfl hll hvb hnx hh hrw;by_cases hm:bs.length≤1000
    · have hm1:(bs.length:Int)≤1000:=om
      have HM:=Hh (Yz hm);clear hm;go_wp2_with fail
      go_roundw
      case rel=>exact⟨j+1,_,om,by go_num,rfl,Hh (fun h60=>by have h:=HNX.out h60;rw[HM.out] at h;first|exact h|(rw[show min (bs.length:Int) 1000=((min bs.length 1000:Nat):Int) by omega];exact HNX.out h60)),HBN⟩
      case measure=>simp[intOf];omega
    · have hm1:(1000:Int)<(bs.length:Int):=om
      have HM:=Hh (Nat.min_eq_right (Nat.le_of_not_le hm));clear hm;go_wp2_with fail
      go_roundw
      case rel=>exact⟨j+1,_,om,by go_num,rfl,Hh (fun h60=>by have h:=HNX.out h60;rw[HM.out] at h;first|exact h|(rw[show min (bs.length:Int) 1000=((min bs.length 1000:Nat):Int) by omega];exact HNX.out h60)),HBN⟩
      case measure=>simp[intOf];omega
  · obtain rfl:j=rs.length:=om
    have htk:(rs.map Prod.fst).take rs.length=rs.map Prod.fst:=Xj sm;rw[htk] at HZ
    rename World=>w1
    have HB1:=HB;clear HB htk;go_wp2_with fail
    go_loopw [27] (fun i wr=>∃ j:Nat,j≤S.length∧i=.int .i64 j∧wr=w1∧Hid (∀ y∈S.take j,-70000≤y∧y≤70000)) (fun i _=>S.length - (intOf i).toNat)
    case atStart=>exact⟨0,Qi _,rfl,rfl,Hh sm⟩
    case round =>
     obtain⟨j,hj,rfl,rfl,HY⟩:=hrel;by_cases hlt:j<S.length
     · obtain⟨y,hy⟩:∃ y,S[j]? = some y:=⟨_,Qb hlt⟩;obtain⟨_,_,hv0,_,hh⟩:=HUS.out.below HB1.out;cases hv0
       obtain⟨g,o,rfl,hg,hcs⟩:=hh (by intro e;have h1:=congrArg List.length e;rw[aBQ,Qs,Qz] at h1;omega);have k0:wr.cell? ⟨g,o+j,none⟩=some (.int .i64 y):=by
        rw[hcs j (by simp[aBQ];exact hlt)];simp[aBQ,hy]
       have hi0:(0:Int)≤(j:Int):=om
       have hi1:(j:Int)<(S.length:Int):=om
       have HYJ:=Hh hy;clear hh hcs hy;by_cases h1:(70000:Int)<y
       · exact aLE
       · by_cases h2:y < -70000
         · exact aLE
         · have HYN:=Hh (show ∀ x∈S.take (j+1),-70000≤x∧x≤70000 from by
            intro x hx;rw[Qo,HYJ.out,Zo] at hx;rcases Xs.1 hx with hx|hx
            · exact HY.out x hx
            · rw[Yd] at hx;subst hx;omega)
           go_wp2_with fail
           go_roundw
           case rel=>exact⟨j+1,om,by go_num,trivial,HYN⟩
           case measure=>simp[intOf];omega
     · obtain rfl:j=S.length:=om
       rw[Qy] at HY;by_cases h1:(200:Int)<z
       · exact aLE
       by_cases h2:(20:Int)<(rs.length:Int)
       · exact aLE
       by_cases h3:(20:Int)<(S.length:Int)
       · exact aLE
       have hzs:=HZ.out om;obtain⟨hf,hn⟩:=aOi (l:=rs.map Prod.fst) (by rw[Qs];omega) om;have hasc:=nL (rs.map Prod.fst) [] ⟨List.Pairwise.nil,by simp⟩
       have hbu:=HBU.out wr HB1.out;simp only[hf] at hbu;unfold aPt at hbu;generalize aKD [] (rs.map Prod.fst)=C at *;obtain⟨L,hL⟩:=aOv C S;have HBV:=Hh hbu;have HASC:=Hh hasc;have HN:=Hh hn;have HL:=Hh hL;have HSL:=Hh (show S.length≤20 by omega);clear hzs hf hn hasc hbu hL HZ HBU;go_wp2_with fail
       (with_reducible refine HBV.out.mono ?_);rintro e w3 ⟨h1',_⟩;obtain⟨b,vc,rfl,hbl,him,hrow,hb3⟩:=h1' trivial;have HB3:=Hh (HB1.out.trans (hb3.mono HB1.out.size));have hS70:∀ a∈S,-100000≤a∧a≤100000:=fun a ha=>by have:=HY.out a ha;omega
       have HTR:=Hh (fun X (hb:Below w3 w3 X)=>aMh b C S L (.slice au S.length cu) X (him.below hb him.raw.lt) (fun W hb2=>HT.out.below ((HB3.out.trans (hb.mono HB3.out.size)).trans (hb2.mono (Qn HB3.out.size hb.size)))) (aHz HSR.out (HB3.out.trans (hb.mono HB3.out.size))) hS70 (by have:=HSL.out;omega) (by have:=HN.out;omega) HL.out);have HRT:=Hh (fun X (hb:Below w3 w3 X)=>aMF C L vc (.slice au S.length cu) X (Row.of_owns (bK hrow hb)) HASC.out (by have:=HN.out;omega) (fun a ha=>by have:=aMJ HASC.out ((HL.out.2 a).1 ha).is;omega) (Qn HL.out.len (by have:=HN.out;omega)) (aMn C S L vc (.slice au S.length cu) X (Row.of_owns (bK hrow hb)) HASC.out (by have:=HN.out;omega) (aHz HSR.out (HB3.out.trans (hb.mono HB3.out.size))) hS70 (by have:=HSL.out;omega) HL.out) ⟨_,_,_,rfl⟩)
       obtain⟨ac,cc,rfl⟩:=aI hrow;generalize (⟨(aLd C L).toArray⟩:ByteArray)=TX at *;clear h1' him hrow hb3 hS70;go_wp2_with fail
       (with_reducible refine (HAL.out _ HB3.out).mono ?_);rintro e w4 ⟨rfl,hb4⟩;have HC4:=Hh hb4;clear hb4;go_wp2_with fail
       (with_reducible refine (HTR.out _ HC4.out).mono ?_);rintro e w5 ⟨rfl,hb5⟩;have HC5:=Hh (HC4.out.trans (hb5.mono HC4.out.size));clear hb5;go_wp2_with fail
       (with_reducible refine (HRT.out _ HC5.out).mono ?_);rintro e w6 ⟨rfl,hb6⟩;have HC6:=Hh (HB3.out.trans ((HC5.out.trans (hb6.mono HC5.out.size)).mono HB3.out.size));clear hb6;go_wp2_with fail
       go_ret;exact⟨rfl,HC6.out⟩
end Go.Proofs.YtoigglljnklhlaaGreatDoor
