/- Joined. -/
import Derived.Test.YtoigglljnklhlaaGreatDoorD38
import Derived.Test.YtoigglljnklhlaaGreatDoorD39
import Derived.Test.YtoigglljnklhlaaGreatDoorD49
set_option maxHeartbeats 8000000
set_option maxRecDepth 100000
namespace Go.Proofs.YtoigglljnklhlaaGreatDoor
open Go.RowKit Go.Sort
open Go.Proofs.Tryz
theorem Gh (L:List It) (m:Nat):dJ (L.take m)≤dJ L:=by
 conv=>rhs;rw[←List.take_append_drop m L]
 rw[lC];omega
theorem Dq {L:List It} {m:Nat} {x:It} (h:L[m]? = some x):dM (L.take (m+1))=dM (L.take m)+if dR x then x.raw.length else 0:=by rw[List.take_add_one,h,pV];simp[pU]
theorem Dk {L:List It} {m:Nat} {x:It} (h:L[m]? = some x):dL (L.take (m+1))=dL (L.take m)+if dR x then 0 else x.raw.length:=by rw[List.take_add_one,h,pS];simp[pR]
theorem Ke {p:Prop} (h:p:=by
 rw[hf] at HCM HDM;clear hf;go_wp2_with fail
 go_roundw
 case rel=>exact⟨m+1,by have:=HMT.out;omega,by rw[HCM.out];first|rfl|(congr 1;simp),by rw[HDM.out];first|rfl|(congr 1;simp;omega),by go_num,HW⟩
 case measure=>have:=HMT.out;simp[intOf];omega):p:=h
theorem Bi (C:List Cl) (v:Value) (b0:Nat) (w:World) (hv:w.ownsRow b0 63 2 v C.length (clc C)) (hC:Asc C) (hl:C.length≤60000) :
 Calls prog 16 #[v] w fun e w'=>e=.returned (.tuple #[.int .i64 (fQ (aS C):Nat),.int .i64 (fP (aS C):Nat)])∧Below w.heap.size w w':=by
 have HR:=Hh (Bf C v b0 w hv hC hl);have HRL:=Hh (fun r (hr:r∈aS C)=>Nat.le_trans (Bg hr) hl);have hrc:=Nat.le_trans (iH C) hl;obtain⟨a0,c0,rfl⟩:=aI hv;generalize aS C=R at *;clear hv hC hl;go_enter func16,ntmps16
 go_wp2_with fail
 (with_reducible refine HR.out.mono ?_);rintro e w1 ⟨u,rs,rfl,hrs,hrows,hb1⟩;have HRS:=Hh hrs;have HROW:=Hh hrows;have HB1:=Hh hb1;have hrl:rs.length=R.length:=by rw[←hrs,List.length_map]
 obtain⟨av,cv,rfl⟩:=aI hrows.own;clear hrs hrows hb1 HR;go_wp2_with fail
 go_loopw [4,5,7] (fun c d i wr=>∃ j:Nat,j≤rs.length∧c=.int .i64 (fQ (R.take j):Nat)∧d=.int .i64 (fP (R.take j):Nat)∧i=.int .i64 j∧Hid (Below w1.heap.size w1 wr)) (fun _ _ i _=>rs.length - (intOf i).toNat)
 case atStart=>exact⟨0,Nat.zero_le _,rfl,rfl,rfl,Hh br⟩
 case round =>
  obtain⟨j,hj,rfl,rfl,rfl,HB⟩:=hrel;have hcl:=zY 60000 (R.take j) (fun r hr=>HRL.out r (List.mem_of_mem_take hr));have hcb:fQ (R.take j)≤3600000000∧fP (R.take j)≤3600000000:=by
   have:(R.take j).length*60000≤60000*60000:=Nat.mul_le_mul_right _ (by rw[List.length_take];omega)
   omega
  obtain⟨hcb1,hcb2⟩:=hcb;by_cases hlt:j<rs.length
  · obtain⟨x,hx⟩:∃ x,rs[j]? = some x:=⟨_,List.getElem?_eq_getElem hlt⟩;obtain⟨_,_,hvv,hcv,hh⟩:=HROW.out.get;cases hvv
    obtain⟨g,o,rfl,_,hg,hcs⟩:=hh (by rintro rfl;exact absurd hlt (Nat.not_lt_zero _))
    obtain⟨k0,k1⟩:=hcs j x hx;have hxo:=HROW.out.has x (List.mem_of_getElem? hx);have hRj:R[j]? = some x.1:=by rw[←HRS.out,List.getElem?_map,hx];rfl
    have hbl:=HRL.out x.1 (List.mem_of_getElem? hRj);have hcn:=tD hRj;have hdn:=tC hRj;obtain⟨⟨ad,bs⟩,vb⟩:=x;dsimp only at k0 k1 hxo hbl hcn hdn;obtain⟨ab,cb,rfl⟩:=aI hxo;have m1:=(HB.out.cell (p:=⟨g,o+j*2+1,none⟩) hg).trans k1;have HDC:=Hh (fun W (hb:Below w1.heap.size w1 W)=>yE bs (.slice ab bs.length cb) W ((Row.of_owns hxo).below hb) om);have hi0:(0:Int)≤(j:Int):=om
    have hi1:(j:Int)<(rs.length:Int):=om
    have HCN:=Hh hcn;have HDN:=Hh hdn;have HBL:=Hh hbl;generalize fQ (R.take j)=CD at *;generalize fP (R.take j)=DD at *;clear hh hcs k0 k1 hxo hx hRj hcn hdn hcl;go_wp2_with fail
    (with_reducible refine (HDC.out _ HB.out).mono ?_);rintro e w3 ⟨v3,its,rfl,hits,hia,hb3⟩;have HB3:=Hh (HB.out.trans (hb3.mono HB.out.size));have HIA:=Hh hia;have HITS:=Hh hits;obtain⟨ai,ci,rfl⟩:=aI hia.own;have hrw:=jO bs;have hil:its.length≤60000:=by have h1:=kK bs;rw[←hits,List.length_map] at h1;omega
    rw[←hits] at hrw HCN HDN;have HRW:=Hh hrw;clear hits hia hb3 hrw m1;go_wp2_with fail
    go_loopw [4,5,9] (fun c d i W=>∃ m:Nat,m≤its.length∧c=.int .i64 (CD+dM ((its.map Prod.fst).take m):Nat)∧d=.int .i64 (DD+dL ((its.map Prod.fst).take m):Nat)∧i=.int .i64 m∧Hid (Below w3.heap.size w3 W)) (fun _ _ i _=>its.length - (intOf i).toNat)
    case atStart=>exact⟨0,Nat.zero_le _,by simp[dM],by simp[dL],rfl,Hh br⟩
    case round =>
     obtain⟨m,hm,rfl,rfl,rfl,HW⟩:=hrel;have hcd:=pT ((its.map Prod.fst).take m);have hrt:=Gh (its.map Prod.fst) m;have hrw:=HRW.out;have hbb:=HBL.out;by_cases hmt:m<its.length
     · obtain⟨y,hy⟩:∃ y,its[m]? = some y:=⟨_,List.getElem?_eq_getElem hmt⟩;obtain⟨_,_,hvv,hci,hh⟩:=HIA.out.get;cases hvv
       obtain⟨gi,oi,rfl,_,hgi,hcs⟩:=hh (by rintro rfl;exact absurd hmt (Nat.not_lt_zero _))
       obtain⟨n0,n1,_,_,n4⟩:=hcs m y hy;have hyr:=(HIA.out.has y (List.mem_of_getElem? hy)).raw;have hyl:y.1.raw.length≤bs.length:=by
        have:=kA (fun x:It=>x.raw.length) (its.map Prod.fst) y.1 (List.mem_map_of_mem (List.mem_of_getElem? hy))
        unfold dJ at hrw;omega
       have hLm:(its.map Prod.fst)[m]? = some y.1:=by rw[List.getElem?_map,hy];rfl
       have hcn:=Dq hLm;have hdn:=Dk hLm;have HMT:=Hh hmt;obtain⟨⟨ki,ra,ins,ial⟩,vr,va⟩:=y;dsimp only at n0 n1 n4 hyr hyl hcn hdn;obtain⟨ar,cr,rfl⟩:=aI hyr;have p0:=(HW.out.cell (p:=⟨gi,oi+m*5,none⟩) hgi).trans n0;have p1:=(HW.out.cell (p:=⟨gi,oi+m*5+1,none⟩) hgi).trans n1;have p4:=(HW.out.cell (p:=⟨gi,oi+m*5+4,none⟩) hgi).trans n4;have hgw:gi<wr.heap.size:=Nat.lt_of_lt_of_le hgi HW.out.size;have q0:(0:Int)≤(m:Int):=om
       have q1:(m:Int)<(its.length:Int):=om
       have HCM:=Hh hcn;have HDM:=Hh hdn;generalize dM ((its.map Prod.fst).take m)=cn at *;generalize dL ((its.map Prod.fst).take m)=dn at *;have hbc:cn+dn≤60000:=om
       have hrr:ra.length≤60000:=om
       have fin:(dR ⟨ki,ra,ins,ial⟩=true∧ki=1∧ial=false)∨(dR ⟨ki,ra,ins,ial⟩=false∧ki=1∧ial=true)∨(dR ⟨ki,ra,ins,ial⟩=false∧((ki:Int) == 1)=false):=by
        unfold dR;by_cases h:ki=1
        · cases ial<;>simp[h]
        · exact .inr (.inr ⟨by simp[h],by simp;omega⟩)
       clear hh hcs n0 n1 n4 hyr hy hLm hcn hdn hcd hrt hrw hbb hyl;rcases fin with⟨hf,rfl,rfl⟩|⟨hf,rfl,rfl⟩|⟨hf,hk1⟩
       · rw[hf] at HCM HDM;clear hf;go_wp2_with fail
         go_roundw
         case rel=>exact⟨m+1,by have:=HMT.out;omega,by rw[HCM.out];first|rfl|(congr 1;simp;omega),by rw[HDM.out];first|rfl|(congr 1;simp),by go_num,HW⟩
         case measure=>have:=HMT.out;simp[intOf];omega
       · exact Ke
       · exact Ke
     · obtain rfl:m=its.length:=om
       have htk:(its.map Prod.fst).take its.length=its.map Prod.fst:=List.take_of_length_le sm;rw[htk,←HCN.out,←HDN.out];have HNX:=Hh (HB3.out.trans (HW.out.mono HB3.out.size));clear hcd hrt hrw hbb htk;go_wp2_with fail
       go_roundw
       case rel=>exact⟨j+1,om,rfl,rfl,by go_num,HNX⟩
       case measure=>simp[intOf];omega
  · obtain rfl:j=rs.length:=om
    have htk:R.take rs.length=R:=List.take_of_length_le om;rw[htk] at hcb1 hcb2 ⊢;clear hcl htk;go_wp2_with fail
    go_ret2;exact⟨rfl,HB1.out.trans (HB.out.mono HB1.out.size)⟩
def cS:List Cl→List (Int × List UInt8)→List Cl
 | C,[]=>C
 | C,r::l=>cS (fZ C r.1 r.2) l
theorem qM:∀ (C:List Cl) (l:List (Int × List UInt8)) (r:Int × List UInt8),cS C (l++[r])=fZ (cS C l) r.1 r.2
 | C,[],r=>rfl
 | C,x::l,r=>by simp[cS,qM]
theorem nL:∀ (l:List (Int × List UInt8)) (C:List Cl),Asc C→Asc (cS C l)
 | [],_C,h=>h
 | _r::l,_C,h=>nL l _ (En h _ _)
theorem nK:∀ (l:List (Int × List UInt8)) (C:List Cl),(cS C l).length≤C.length+(l.map fun r=>r.2.length).sum
 | [],C=>by simp[cS]
 | r::l,C=>by
   have h1:=nK l (fZ C r.1 r.2);have h2:=Ml C r.1 r.2;simp only[cS,List.map_cons,List.sum_cons];omega
theorem Ez:∀ l:List (Int × List UInt8),lW l≤3000→(∀ r∈l,r.2.length≤3000)∧(l.map fun r=>r.2.length).sum≤3000:=by
 have key:∀ l:List (Int × List UInt8),lW l≤3000→(l.map fun r=>r.2.length).sum=lW l∧∀ r∈l,r.2.length≤3000:=by
  intro l;induction l with
  | nil=>intro _;exact⟨rfl,by simp⟩
  | cons r l ih =>
    intro h;simp only[lW,List.map_cons,List.sum_cons] at h;obtain⟨h1,h2⟩:=ih (by simp only[lW];omega);simp only[lW] at h1;refine⟨by simp only[lW,List.map_cons,List.sum_cons,h1];omega,fun q hq=>?_⟩
    rcases List.mem_cons.1 hq with rfl|hq
    · omega
    · exact h2 q hq
 intro l h;obtain⟨h1,h2⟩:=key l h;exact⟨h2,om⟩
def Qz (l:List (Int × List UInt8)) (w:World) (e:Ending) (w':World):Prop :=
 ∃ b v,e=.returned (.tuple #[.pointer (some ⟨b,0,none⟩),v])∧w.heap.size≤b∧ImgAt b (cS [] l) w'∧w'.ownsRow w.heap.size 63 2 v (cS [] l).length (clc (cS [] l))∧Below w.heap.size w w'
theorem Ji (rs:List RgX) (v:Value) (w:World) (h:RgAt w v rs) (hT:TabB w) (hl:rs.length≤maxLen) :
 Calls prog 8 #[v] w fun e w'=>(tW (rs.map Prod.fst)=true→Qz (rs.map Prod.fst) w e w')∧(tW (rs.map Prod.fst)=false→e=.returned (.tuple #[.pointer none,.slice none 0 0])∧Below w.heap.size w w'):=by
 have HFW:=Hh (Fa rs v w h hl);obtain⟨a,c,rfl,hcap,hh⟩:=h.get;have HH:=Hh hh;have HA:=Hh h.has;have HT:=Hh hT;cases hf:tW (rs.map Prod.fst)
 · rw[hf] at HFW;clear h hh hT hf;go_enter func8,ntmps8
   go_wp2_with fail
   (with_reducible refine HFW.out.mono ?_);rintro e w1 ⟨rfl,rfl⟩;go_wp2_with fail
   go_ret2;exact⟨(fun h=>by cases h),fun _=>⟨rfl,Below.refl _ _⟩⟩
 · have hfc:=hf;unfold tW at hfc;rw[Bool.and_eq_true,decide_eq_true_eq,decide_eq_true_eq,List.length_map] at hfc;obtain⟨hr1,hr2⟩:=Ez _ hfc.2;have hr60:=hfc.1;rw[hf] at HFW;have HR1:=Hh hr1;have HR2:=Hh hr2;clear h hh hT hf hfc hr1 hr2;go_enter func8,ntmps8
   go_wp2_with fail
   (with_reducible refine HFW.out.mono ?_);rintro e w1 ⟨rfl,rfl⟩;go_wp2_with fail
   (with_reducible refine (Et _).mono ?_);rintro e w2 ⟨rfl,him,hb2⟩;have HB2:=Hh hb2;have HIM:=Hh him;clear hb2 him;go_wp2_with fail
   go_loopw [5,14] (fun o i wr=>∃ j:Nat,j≤rs.length∧i=.int .i64 j∧Hid (ImgAt w.heap.size (cS [] ((rs.map Prod.fst).take j)) wr)∧Hid (wr.ownsRow (w.heap.size+1) 63 2 o (cS [] ((rs.map Prod.fst).take j)).length (clc (cS [] ((rs.map Prod.fst).take j))))∧Hid (cS [] ((rs.map Prod.fst).take j)=[]→o=.slice none 0 0)∧Hid (Below w.heap.size w wr)) (fun _ i _=>rs.length - (intOf i).toNat)
   case atStart=>exact⟨0,Nat.zero_le _,rfl,HIM,Hh (World.ownsRow_nil _ _ _ _),Hh (fun _=>rfl),HB2⟩
   case round =>
    obtain⟨j,hj,rfl,HI,HO,HN,HB⟩:=hrel;obtain⟨ao,co,rfl⟩:=aI HO.out;have hbl:=nK ((rs.map Prod.fst).take j) [];have hsl:(((rs.map Prod.fst).take j).map fun r=>r.2.length).sum≤3000:=by
     refine Nat.le_trans ?_ HR2.out
     conv=>rhs;rw[←List.take_append_drop j (rs.map Prod.fst)]
     rw[List.map_append,List.sum_append];omega
    rw[List.length_nil,Nat.zero_add] at hbl;have hcl:(cS [] ((rs.map Prod.fst).take j)).length≤3000:=Nat.le_trans hbl hsl;have hasc:=nL ((rs.map Prod.fst).take j) [] ⟨List.Pairwise.nil,by simp⟩
    by_cases hlt:j<rs.length
    · obtain⟨x,hx⟩:∃ x,rs[j]? = some x:=⟨_,List.getElem?_eq_getElem hlt⟩;obtain⟨g,o,rfl,hg,hcs⟩:=HH.out (by rintro rfl;exact absurd hlt (Nat.not_lt_zero _))
      obtain⟨k0,k1⟩:=hcs j x hx;have hxr:=HA.out x (List.mem_of_getElem? hx);have hxm:x.1∈rs.map Prod.fst:=List.mem_map_of_mem (List.mem_of_getElem? hx);have hxl:=HR1.out _ hxm;have hst:cS [] ((rs.map Prod.fst).take (j+1))=fZ (cS [] ((rs.map Prod.fst).take j)) x.1.1 x.1.2:=by
       rw[List.take_add_one,List.getElem?_map,hx];exact qM _ _ _
      obtain⟨⟨ad,bs⟩,vb⟩:=x;dsimp only at k0 k1 hxr hxl hst;obtain⟨ab,cb,rfl,hcb,_⟩:=id hxr;have HST:=Hh hst;have m0:=(HB.out.cell (p:=⟨g,o+j*2,none⟩) hg).trans k0;have m1:=(HB.out.cell (p:=⟨g,o+j*2+1,none⟩) hg).trans k1;have hgw:g<wr.heap.size:=Nat.lt_of_lt_of_le hg HB.out.size;have hi0:(0:Int)≤(j:Int):=om
      have hi1:(j:Int)<(rs.length:Int):=om
      have hsz:w.heap.size<wr.heap.size:=HI.out.raw.lt;have HXR:=Hh hxr;have HASC:=Hh hasc;have HCL:=Hh hcl;have HXL:=Hh hxl;generalize cS [] ((rs.map Prod.fst).take j)=C at *;clear hcs hx hxm hst hxr hbl hsl hasc hcl k0 k1 hxl;go_wp2_with fail
      have hal:Below wr.heap.size wr (wr.alloc (.cells #[.int .i64 ad,.slice ab bs.length cb] 35)):=br.alloc lr _;have hbx:=aF wr (.cells #[.int .i64 ad,.slice ab bs.length cb] 35);have hbw:=HB.out.trans (hal.mono HB.out.size);(with_reducible refine (Eo w.heap.size C ad bs (.slice ab bs.length cb) _ (HI.out.below hal hsz) (HT.out.below hbw) (HXR.out.below hbw) (by have:=HCL.out;omega) (by have:=HXL.out;omega)).mono ?_);rintro e w3 ⟨kk,rfl,him3,hk3⟩;have hbx3:=(hk3.block _ (aA hbx) om).trans hbx;have hb3:=bS hbw hbw.size hk3 lr;have ho3:=Kb.owns (bK HO.out hal) hk3 (fun e=>by have:=(HO.out.lt _ e).1;omega)
      have HIM3:=Hh him3;have HB3:=Hh hb3;have HO3:=Hh ho3;obtain⟨z0,z1,_,_⟩:=aL hbx3;have hlx:=aA hbx3;clear hal hbx hbw him3 hk3 hbx3 hb3 ho3 m0 m1;go_wp2_with fail
      (with_reducible refine (Gk C HASC.out (.slice ao C.length co) ad bs (.slice ab bs.length cb) (w.heap.size+1) _ HO3.out HN.out om (HXR.out.below HB3.out) (by have:=HCL.out;omega) (by have:=HXL.out;omega)).mono ?_);rintro e w4 ⟨v4,kq,rfl,ho4,hn4,hb4⟩;have HIM4:=Hh (HIM3.out.below hb4 HIM3.out.raw.lt);have HB4:=Hh (HB3.out.trans (hb4.mono HB3.out.size));have HO4:=Hh ho4;have HN4:=Hh hn4;clear hb4 ho4 hn4 z0 z1;go_wp2_with fail
      go_roundw
      case rel=>exact⟨j+1,om,by go_num,Hh (by rw[HST.out];exact HIM4.out),Hh (by rw[HST.out];exact HO4.out),Hh (by rw[HST.out];exact HN4.out),HB4⟩
      case measure=>simp[intOf];omega
    · obtain rfl:j=rs.length:=om
      have htk:(rs.map Prod.fst).take rs.length=rs.map Prod.fst:=List.take_of_length_le sm;rw[htk] at HI HO HN ⊢;clear hbl hsl hcl hasc htk;go_wp2_with fail
      go_ret2;exact⟨fun _=>⟨w.heap.size,_,rfl,Nat.le_refl _,HI.out,aP HO.out (Nat.le_succ _),HB.out⟩,(fun h=>by cases h)⟩
theorem Nn {rs:List RgX} (hf:tW (rs.map Prod.fst)=true):(cS [] (rs.map Prod.fst)).length≤3000:=by
 unfold tW at hf;rw[Bool.and_eq_true,decide_eq_true_eq,decide_eq_true_eq] at hf;have h1:=nK (rs.map Prod.fst) [];have h2:=(Ez _ hf.2).2;rw[List.length_nil,Nat.zero_add] at h1;omega
theorem qU (rs:List RgX) (v:Value) (w:World) (h:RgAt w v rs) (hl:rs.length≤maxLen) (hT:TabsA w) (hTB:TabB w) :
 Calls prog 4 #[v] w fun e w'=>e=.returned (.bool true)∧Below w.heap.size w w':=by
 have HFW:=Hh (fun X (hb:Below w.heap.size w X)=>Fa rs v X (h.below hb) hl);have HBU:=Hh (Ji rs v w h hTB hl);have HAL:=Hh (fun X (hb:Below w.heap.size w X)=>Up X (hT.below hb) (hTB.below hb));have HT:=Hh hT;have HTB:=Hh hTB;have hlen:=@Nn rs;obtain⟨a,c,rfl,_,_⟩:=h.get;cases hf:tW (rs.map Prod.fst)
 · simp only[hf] at HFW HBU;clear h hT hTB hf hl hlen;go_enter func4,ntmps4
   go_wp2_with fail
   (with_reducible refine HBU.out.mono ?_);rintro e w1 ⟨_,h2⟩;obtain⟨rfl,hb1⟩:=h2 trivial;have HB1:=Hh hb1;clear h2 hb1;go_wp2_with fail
   (with_reducible refine (HAL.out _ HB1.out).mono ?_);rintro e w2 ⟨rfl,hb2⟩;have HB2:=Hh (HB1.out.trans (hb2.mono HB1.out.size));clear hb2;go_wp2_with fail
   (with_reducible refine (HFW.out _ HB2.out).mono ?_);rintro e w3 ⟨rfl,rfl⟩;go_wp2_with fail
   go_ret;exact⟨rfl,HB2.out⟩
 · have hn:=hlen hf;have hasc:=nL (rs.map Prod.fst) [] ⟨List.Pairwise.nil,by simp⟩
   have hsum:=Gi (cS [] (rs.map Prod.fst));simp only[hf] at HFW HBU;unfold Qz at HBU;generalize cS [] (rs.map Prod.fst)=C at *;have HASC:=Hh hasc;have HN:=Hh hn;have HSUM:=Hh hsum;clear h hT hTB hf hl hlen hasc hn hsum;go_enter func4,ntmps4
   go_wp2_with fail
   (with_reducible refine HBU.out.mono ?_);rintro e w1 ⟨h1,_⟩;obtain⟨b,vc,rfl,hbl,him,hrow,hb1⟩:=h1 trivial;obtain⟨ac,cc,rfl⟩:=aI hrow;have HIM:=Hh him;have HROW:=Hh hrow;have HB1:=Hh hb1;clear h1 him hrow hb1;go_wp2_with fail
   (with_reducible refine (Gj b C w1 HIM.out (HTB.out.below HB1.out) (fun W hb=>HT.out.below (HB1.out.trans (hb.mono HB1.out.size))) (by have:=HN.out;omega)).mono ?_);rintro e w2 ⟨rfl,hb2⟩;have HB2:=Hh (HB1.out.trans (hb2.mono HB1.out.size));have HROW2:=Hh (bK HROW.out hb2);clear hb2;go_wp2_with fail
   (with_reducible refine (Bi C _ w.heap.size w2 HROW2.out HASC.out (by have:=HN.out;omega)).mono ?_);rintro e w3 ⟨rfl,hb3⟩;have HB3:=Hh (HB2.out.trans (hb3.mono HB2.out.size));clear hb3;have hs:=HSUM.out;have hn:=HN.out;generalize fQ (aS C)=CD at *;generalize fP (aS C)=DD at *;have hw:IntKind.i64.wrap ((CD:Int)+(DD:Int))=(C.length:Int):=by rw[IntWalk.i64_in _ om];omega
   have HS:=Hh hs;clear hs hn HSUM;go_wp2_with fail
   (with_reducible refine (HAL.out _ HB3.out).mono ?_);rintro e w4 ⟨rfl,hb4⟩;have HB4:=Hh (HB3.out.trans (hb4.mono HB3.out.size));clear hb4;go_wp2_with fail
   go_ret;exact⟨rfl,HB4.out⟩
end Go.Proofs.YtoigglljnklhlaaGreatDoor
