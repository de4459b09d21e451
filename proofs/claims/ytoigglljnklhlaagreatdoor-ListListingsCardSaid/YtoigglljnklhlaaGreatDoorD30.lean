/- Joined. -/
import Derived.Test.YtoigglljnklhlaaGreatDoorD22
import Derived.Test.YtoigglljnklhlaaGreatDoorD28
import Derived.Test.YtoigglljnklhlaaGreatDoorD29
set_option maxHeartbeats 8000000
set_option maxRecDepth 100000
namespace Go.Proofs.YtoigglljnklhlaaGreatDoor
open Go.RowKit Go.Sort
open Go.Proofs.Tryz
theorem Qe {l:List UInt8} {u:Value} (h:u∈aT l):u.oneCell'=true:=Ad l u h
theorem Ae {w:World} {g o:Nat} {b:List UInt8} {n:Nat} (h:∀ (j:Nat) (x:UInt8),b[j]? = some x→w.cell? ⟨g,o+j,none⟩=some (.int .u8 x.toNat)):∀ j u,(aT (b.take n))[j]? = some u→w.cell? ((⟨g,o,none⟩:Addr).add j)=some u:=fun j u hu=>by
 rw[bD];have hj:=(List.getElem?_eq_some_iff.1 hu).1;rw[fS] at hj;have hb:(b.take n)[j]? = some (b.take n)[j]:=List.getElem?_eq_getElem hj;have h1:=oS hb;rw[hu] at h1;injection h1 with h1
 rw[h1];refine h j _ ?_
 have:=hb
 rw[List.length_take] at hj;rw[List.getElem?_take_of_lt om] at this;exact this
theorem Cq (K:Nat) (b:List UInt8) (v:Value) (n:Nat) (k m:Int) (hk:k=K) (hm:m=n) (w:World) (hv:Row w v b.length (aT b)) (hn0:0<n) (hn:n≤b.length) (hl:b.length≤100000) :
 Calls prog 52 #[.int .i64 k,v,.int .i64 m] w fun e w'=>∃ vr,e=.returned (itV ⟨K,b.take n,([],[]),false⟩ vr (.slice none 0 0))∧w'.ownsRow w.heap.size 5 1 vr n (aT (b.take n))∧Below w.heap.size w w':=by
 subst hk hm;obtain⟨i0,hi,hz0,hz1,hz2⟩:=info_parts Tryz.infoByte;obtain⟨a,c,rfl,hcap,h⟩:=hv.byt;obtain⟨g,o,rfl,hg,hc⟩:=h (by intro e;rw[e] at hn;simp at hn;omega);have hk1:(n:Int)≤(b.length:Int):=om
 have hk2:(0:Int)≤(n:Int):=om
 have hk3:(n:Int)≤(c:Int):=om
 have htl:(aT (b.take n)).length=n*1:=by rw[fS,List.length_take];omega
 have HC:=Hh hc;clear hc h hv;go_enter func52,ntmps52
 have hb0:Below w.heap.size w ((w.alloc (.cells #[.int .i64 0,.slice none 0 0,.string ⟨#[]⟩,.slice none 0 0,.bool false] 55)).alloc (.cells #[] 5)):=bl;have hsrc:eR ((w.alloc (.cells #[.int .i64 0,.slice none 0 0,.string ⟨#[]⟩,.slice none 0 0,.bool false] 55)).alloc (.cells #[] 5)) (.slice (some ⟨g,o,none⟩) n c) n (aT (b.take n)):=.inr ⟨⟨g,o,none⟩,c,rfl,Ae (fun j x hx=>(hb0.cell (p:=⟨g,o+j,none⟩) hg).trans (HC.out j x hx))⟩;have HSRC:=Hh hsrc;clear hsrc;have hown0:=iI (w.alloc (.cells #[.int .i64 0,.slice none 0 0,.string ⟨#[]⟩,.slice none 0 0,.bool false] 55)) (w.heap.size+1) 5 1 sm;rw[World.size_alloc] at hown0;have HO:=Hh hown0;clear hown0;go_wp2_with (at_builtin;refine fK rfl _ _ 33 rfl (w.heap.size+1) 5 i0 (.int .u8 0) 1 1 underlying33 hi hz0 hz1 hz2 rfl dc _ 0 [] rfl HO.out _ n (aT (b.take n)) rfl HSRC.out htl (fun u hu=>Qe hu) (by unfold maxLen;omega) om sm ?_)
 intro v' w1 hown hgrow _;have hb:=hb0.grown hgrow (by simp;omega) (by intro q hq;cases hq;exact Nat.le_succ _);have hbx:w1.heap[w.heap.size]? = some (.cells #[.int .i64 0,.slice none 0 0,.string ⟨#[]⟩,.slice none 0 0,.bool false] 55 (0,0)):=by
  refine (hgrow.block _ (by simp;omega) (fun e=>by have h1:=Option.some.inj e;change w.heap.size=w.heap.size+1 at h1;omega)).trans (aE (aF _ _))
 have hown:w1.ownsRow (w.heap.size+1) 5 1 v' n (aT (b.take n)):=by simpa using hown
 obtain⟨a1,c1,rfl⟩:=aI hown;obtain⟨⟨q0,q1,q2,q3,q4⟩,f0,f1,f2,f3,f4⟩:=bJ hbx;have hlx:=aA hbx;have HOWN:=Hh hown;have HB:=Hh hb;have HBX:=Hh hbx;clear hb hgrow hb0 hown hbx;go_wp2_with fail
 generalize hF:World.setCell (World.setCell (World.setCell (World.setCell (World.setCell w1 _ _) _ _) _ _) _ _) _ _=F;have hkf:Kb w.heap.size w1 F:=by rw[←hF];exact cN _ _ _ _ _ _
 have hfx:F.heap[w.heap.size]? = some (.cells #[.int .i64 K,.slice a1 n c1,.string ⟨#[]⟩,.slice none 0 0,.bool false] 55 (0,0)):=by rw[←hF];exact aG (aG (aG (aG (aG HBX.out))))
 clear hF;obtain⟨⟨r0,r1,r2,r3,r4⟩,_⟩:=bJ hfx;have hlf:=aA hfx;refine bodyPost_ret (v:=itV ⟨K,b.take n,([],[]),false⟩ (.slice a1 n c1) (.slice none 0 0)) (by simp[results,results52,go_sem,itV,r0,r1,r2,r3,r4]) rfl ⟨_,rfl,?_,bS HB.out HB.out.size hkf lr⟩;exact bR (Kb.owns HOWN.out hkf (fun e=>by have:=(HOWN.out.lt _ e).1;omega)) (Nat.le_succ _)
theorem Dr (g o n c:Nat) (l:List UInt8) (hln:l.length=n) (w:World) (hg:g<w.heap.size) (hc:∀ j x,l[j]? = some x→w.cell? ⟨g,o+j,none⟩=some (.int .u8 x.toNat)) (hl:n≤100000) :
 Calls prog 47 #[.slice (some ⟨g,o,none⟩) n c] w fun e w'=>∃ v,e=.returned v∧w'.ownsRow w.heap.size 5 1 v n (aT l)∧Below w.heap.size w w':=by
 obtain⟨i0,hi,hz0,hz1,hz2⟩:=info_parts Tryz.infoByte;have hb0:Below w.heap.size w (w.alloc (.cells #[] 5)):=br.alloc lr _;have hsrc:eR (w.alloc (.cells #[] 5)) (.slice (some ⟨g,o,none⟩) n c) n (aT l):=.inr ⟨⟨g,o,none⟩,c,rfl,fun j u hu=>by
  have:=Ae (n:=l.length) (fun j x hx=>(hb0.cell (p:=⟨g,o+j,none⟩) hg).trans (hc j x hx)) j u
  rw[List.take_length] at this;exact this hu⟩
 have HSRC:=Hh hsrc;have hnil:=fun w=>@Lib.run_eql_slice_nil prog w;have hbl:(aT l).length=n*1:=by rw[fS];omega
 clear hc hsrc;go_enter func47,ntmps47
 go_wp2_with (at_builtin;refine fK rfl _ _ 33 rfl w.heap.size 5 i0 (.int .u8 0) 1 1 underlying33 hi hz0 hz1 hz2 rfl dc _ 0 [] rfl (iI w _ _ 1 lr) _ n (aT l) rfl HSRC.out hbl (fun u hu=>Qe hu) (by unfold maxLen;omega) om sm ?_)
 intro v' w1 hown hgrow _;have hb:=hb0.grown hgrow sm (by intro q hq;cases hq;exact Nat.le_refl _);have hown2:w1.ownsRow w.heap.size 5 1 v' n (aT l):=by simpa using hown
 have HOWN:=Hh hown2;have HB:=Hh hb;clear hown hgrow hb hown2;go_wp2_with fail
 go_ret;exact⟨_,rfl,HOWN.out,HB.out⟩
abbrev RnX:=(Nat × List UInt8) × Value
def yC (x:RnX):List Value:=[.int .i64 x.1.1,x.2]
def rnc (l:List RnX):List Value:=l.flatMap yC
theorem lA (l:List RnX) (x:RnX):rnc (l++[x])=rnc l++yC x:=by simp[rnc]
structure RnsAt (T:TypeId) (w:World) (base:Nat) (v:Value) (rs:List RnX):Prop where
 own:w.ownsRow base T 2 v rs.length (rnc rs)
 has:∀ x∈rs,w.ownsRow base 5 1 x.2 x.1.2.length (aT x.1.2)
theorem RnsAt.nil (T:TypeId) (w:World) (base:Nat):RnsAt T w base (.slice none 0 0) []:=⟨World.ownsRow_nil _ _ _ _,by simp⟩
theorem RnsAt.below {T:TypeId} {w w':World} {base:Nat} {v:Value} {rs:List RnX} (h:RnsAt T w base v rs) (hb:Below w.heap.size w w'):RnsAt T w' base v rs:=⟨bK h.own hb,fun x hx=>bK (h.has x hx) hb⟩
theorem RnsAt.mono {T:TypeId} {w:World} {base base':Nat} {v:Value} {rs:List RnX} (h:RnsAt T w base v rs) (hb:base'≤base):RnsAt T w base' v rs:=⟨aP h.own hb,fun x hx=>aP (h.has x hx) hb⟩
theorem RnsAt.on {T:TypeId} {w w':World} {base m:Nat} {v:Value} {rs:List RnX} (h:RnsAt T w base v rs) (hk:lZ m w w') (hm:m≤base):RnsAt T w' base v rs:=⟨lD h.own hk hm,fun x hx=>lD (h.has x hx) hk hm⟩
theorem RnsAt.snoc {T:TypeId} {w w':World} {base:Nat} {v v':Value} {rs:List RnX} {x:RnX} (hT:5≠T) (h:RnsAt T w base v rs) (hx:w.ownsRow base 5 1 x.2 x.1.2.length (aT x.1.2))
 (hown:w'.ownsRow base T 2 v' (rs.length+1) (rnc rs++yC x)) (hg:w.grownBy w' v.ownBlock):RnsAt T w' base v' (rs++[x]):=by
 refine⟨by rw[lA,List.length_append];exact hown,fun y hy=>?_⟩
 have hy2:w.ownsRow base 5 1 y.2 y.1.2.length (aT y.1.2):=by
  rcases List.mem_append.1 hy with hy|hy
  · exact h.has y hy
  · obtain rfl:y=x:=by simpa using hy
    exact hx
 exact hy2.kept hg (gB hy2 h.own hT)
theorem RnsAt.get {T:TypeId} {w:World} {base:Nat} {v:Value} {rs:List RnX} (h:RnsAt T w base v rs):∃ a cap,v=.slice a rs.length cap∧rs.length≤cap∧(rs≠[]→∃ g o,a=some ⟨g,o,none⟩∧base≤g∧g<w.heap.size∧∀ i x,rs[i]? = some x →
 w.cell? ⟨g,o+i*2,none⟩=some (.int .i64 x.1.1)∧w.cell? ⟨g,o+i*2+1,none⟩=some x.2):=by
 obtain⟨a,cap,hv,hn,hh⟩:=(Row.of_owns h.own).structs yC 2 (fun _=>rfl) dc;refine⟨a,cap,hv,hn,fun hne=>?_⟩;obtain⟨g,o,rfl,hg,hc⟩:=hh hne;refine⟨g,o,rfl,?_,hg,fun i x hx=>⟨hc i x hx 0 dc,hc i x hx 1 dc⟩⟩;exact (h.own.lt g (by rw[hv];rfl)).1
theorem rS (W:World) (x0 x1:Value) (T:TypeId):∀ (j:Nat) (u:Value),[x0,x1][j]? = some u→(W.alloc (.cells #[x0,x1] T)).cell? ((⟨W.heap.size,0,none⟩:Addr).add j)=some u:=fun j u hu=>by
 rw[bD,Nat.zero_add,aC (aF _ _)];simpa using hu
theorem Xm {x:Int} {y0:Option Addr} {n0 c0:Nat}:∀ u∈[Value.int .i64 x,.slice y0 n0 c0],u.oneCell'=true:=fun u hu=>by
 simp at hu
 rcases hu with rfl|rfl<;>rfl
theorem Tryz.infoRun:(prog.info? 61).map (fun i=>(i.zero,i.size,i.bytes))=some (some (.agg #[.int .i64 0,.slice none 0 0]),2,32):=by kernel_rfl
theorem vA {b:Nat} {C:List Cl} {w:World} (h:ImgAt b C w) (a:Nat):∀ n,a+n≤65536→∃ l:List UInt8,l.length=n∧∀ j x,l[j]? = some x→w.cell? ⟨b,1025+a+j,none⟩=some (.int .u8 x.toNat)∧∀ q,nM C (a+j) q→x=q
 | 0,_=>⟨[],rfl,fun j x hj=>by simp at hj⟩
 | n+1,hn=>by
   obtain⟨l,h1,h2⟩:=vA h a n om;obtain⟨c,hc,_,_,_,hb⟩:=h.raw.ex;obtain⟨y,hy,hq⟩:=hb (a+n) om;refine⟨l++[y],by simp[h1],fun j x hj=>?_⟩
   by_cases hjn:j<n
   · rw[List.getElem?_append_left om] at hj;exact h2 j x hj
   · have hlt:=(List.getElem?_eq_some_iff.1 hj).1
     have:j=n:=by simp[h1] at hlt;omega
     subst this;rw[List.getElem?_append_right om,h1,Nat.sub_self] at hj;simp at hj
     subst hj;refine⟨?_,hq⟩;rw[aC hc,Nat.add_assoc];exact hy
theorem Ic {C:List Cl} {a:Nat} (h:inC C a=true):∃ q,nM C a q:=by
 simp only[inC,List.any_eq_true,beq_iff_eq] at h;obtain⟨c,hc,rfl⟩:=h;exact⟨c.2,hc⟩
theorem Ng (b:Nat) (C:List Cl) (w:World) (hI:ImgAt b C w) (hT:TabB w) (k:Int) (a:Nat) (inn:Bool) (hk:k=(a:Int)) (ha:a≤65536) :
 Calls prog 44 #[.pointer (some ⟨b,0,none⟩),.int .i64 k,.bool inn] w fun e w'=>∃ r:Nat,e=.returned (.int .i64 r)∧vT (inC C) a inn r∧w=w':=by
 subst hk;exact yQ b (inC C) (nM C) C.length a inn w hI.raw hT ha
theorem xW (b:Nat) (C:List Cl) (w:World) (hI:ImgAt b C w) (hT:TabB w) (hn:C.length≤60000) :
 Calls prog 25 #[.pointer (some ⟨b,0,none⟩)] w fun e w'=>∃ v rs,e=.returned v∧rs.map Prod.fst=aS C∧RnsAt 61 w' w.heap.size v rs∧Below w.heap.size w w':=by
 obtain⟨i0,hi,hz0,hz1,hz2⟩:=info_parts Tryz.infoRun;have hbl:=hI.raw.lt;have hcl:=iH C;have HIW:=Hh (fun W (hb:Below w.heap.size w W)=>hI.below hb hbl);have HNX:=Hh (fun W (hb:Below w.heap.size w W) (k:Int) (a:Nat) inn (hk:k=(a:Int)) (ha:a≤65536)=>Ng b C W (hI.below hb hbl) (hT.below hb) k a inn hk ha);have HASC:=Hh hI.asc;have HCL:=Hh hcl;clear hI hT hcl;go_enter func25,ntmps25
 go_wp2_with fail
 (with_reducible refine (HNX.out _ br 0 0 true rfl om).mono ?_);rintro e w1 ⟨r,rfl,hr,rfl⟩;have hr2:gS (inC C) 0 r:=by unfold vT at hr;simpa using hr
 have hst:aS (gN C r)=aS C:=by rw[←vF hr2,Ie]
 have HST:=Hh hst;have HR:=Hh hr2;clear hr hr2 hst;go_wp2_with fail
 go_loopw [3,4] (fun o f wr=>∃ (a:Nat) (pre:List RnX),a≤65536∧f=.int .i64 a∧Hid (a<65536→inC C a=true)∧Hid (pre.map Prod.fst++aS (gN C a)=aS C)∧Hid (RnsAt 61 wr w.heap.size o pre)∧Hid (Below w.heap.size w wr)) (fun _ f _=>65536 - (intOf f).toNat)
 case atStart=>exact⟨r,[],HR.out.2.1,rfl,Hh (fun h=>HR.out.2.2.2 h),Hh (by simpa using HST.out),Hh (RnsAt.nil _ _ _),Hh br⟩
 case round =>
  obtain⟨a,pre,ha,rfl,HIN,HE,HRS,HB⟩:=hrel;obtain⟨av,cv,rfl⟩:=aI HRS.out.own;by_cases hlt:a<65536
  · have hin:=HIN.out hlt;have hi1:(a:Int)<65536:=om
    go_wp2_with fail
    (with_reducible refine (HNX.out _ HB.out a a false rfl ha).mono ?_);rintro e w2 ⟨r2,rfl,hr2,rfl⟩;have hr3:gS (fun x=>!inC C x) a r2:=by unfold vT at hr2;simpa using hr2
    obtain⟨k1,k2,k3,k4⟩:=hr3;have har:a<r2:=by
     rcases Nat.lt_or_ge a r2 with h1|h1
     · exact h1
     · obtain rfl:a=r2:=om
       have:=k4 hlt
       simp[hin] at this
    obtain⟨bs,hbl1,hbs⟩:=vA (HIW.out _ HB.out) a (r2 - a) om;have hhas:∀ i x,bs[i]? = some x→nM C (a+i) x:=fun i x hx=>by
     have hib:=(List.getElem?_eq_some_iff.1 hx).1;have h1:=k3 (a+i) om om;obtain⟨q,hq⟩:=Ic (C:=C) (a:=a+i) (by simpa using h1)
     have:=(hbs i x hx).2 q hq
     rw[this];exact hq
    have hcl:=HCL.out;have hpl:pre.length≤65536∧bs.length≤65536:=⟨by
     have h1:=congrArg List.length HE.out;rw[List.length_append,List.length_map] at h1;omega,om⟩
    have HCLN:=Hh (fun W (hb:Below wr.heap.size wr W)=>Dr b (1025+a) (r2 - a) (65536 - a) bs hbl1 W (Nat.lt_of_lt_of_le (HIW.out _ HB.out).raw.lt hb.size) (fun j x hj=>(hb.cell (p:=⟨b,1025+a+j,none⟩) (HIW.out _ HB.out).raw.lt).trans (hbs j x hj).1) om);have hsl:=fun W=>wA b a r2 har k2 W;have HK:=Hh (show gS (fun x=>!inC C x) a r2 from⟨k1,k2,k3,k4⟩)
    have HBS:=Hh hhas;have HBL1:=Hh hbl1;have HAR:=Hh (And.intro har (And.intro k2 hlt));obtain⟨hp1,hp2⟩:=hpl;have hsz:=HB.out.size;clear hr2 k1 k2 k3 k4 hbs hhas hbl1 hcl har hlt hin;go_wp2_with fail
    (with_reducible refine (HCLN.out _ br).mono ?_);rintro e w3 ⟨vd,rfl,hod,hb3⟩;obtain⟨ad,cd,rfl⟩:=aI hod;have HRS3:=Hh (HRS.out.below hb3);have HB3:=Hh (HB.out.trans (hb3.mono hsz));have HOD:=Hh (aP hod hsz);have hsz3:=HB3.out.size;clear hod hb3;go_wp2_with (at_builtin;refine wpList_append_own _ rfl _ _ 59 rfl w.heap.size 61 i0 (.agg #[.int .i64 0,.slice none 0 0]) 2 32 underlying59 hi hz0 hz1 hz2 rfl dc _ _ _ rfl (HRS3.out.own.alloc _) ⟨w3.heap.size,0,none⟩ 1 1 [.int .i64 a,.slice ad (r2 - a) cd] rfl rfl (rS _ _ _ _) Xm (by unfold maxLen;omega) om (by simp;omega) ?_)
    intro v' w4 hown' hg4 _;obtain⟨g',cap',rfl⟩:=ownsRow_succ hown';have hal:Below w3.heap.size w3 (w3.alloc (.cells #[.int .i64 a,.slice ad (r2 - a) cd] 61)):=br.alloc lr _;have hx4:w3.ownsRow w.heap.size 5 1 (.slice ad (r2 - a) cd) bs.length (aT bs):=by rw[HBL1.out];exact HOD.out
    have hrs4:=(HRS3.out.below hal).snoc (x:=((a,bs),.slice ad (r2 - a) cd)) dc (bK hx4 hal) hown' hg4;have hb4:Below w.heap.size w w4:=(HB3.out.trans (hal.mono hsz3)).grown hg4 (by rw[World.size_alloc];omega) (fun k hk=>(HRS3.out.own.lt k hk).1);have HRS4:=Hh hrs4;have HB4:=Hh hb4;clear hrs4 hb4 hown' hg4 hal hx4;have h2i:(r2:Int)≤65536:=by have:=HAR.out;omega
    go_wp2_with fail
    (with_reducible refine (HNX.out _ HB4.out r2 r2 true rfl HAR.out.2.1).mono ?_);rintro e w5 ⟨a',rfl,hr5,rfl⟩;have hr6:gS (inC C) r2 a':=by unfold vT at hr5;simpa using hr5
    obtain⟨hrr,hlt⟩:=Be HASC.out HAR.out.2.2 (HIN.out HAR.out.2.2) HK.out hr6 bs HBL1.out HBS.out;have hE:=HE.out;rw[hrr] at hE;have HEQ:=Hh hE;have HN6:=Hh hr6;clear hr5 hr6 hrr hE hlt;go_wp2_with fail
    go_roundw
    case rel=>exact⟨a',pre++[((a,bs),.slice ad (r2 - a) cd)],HN6.out.2.1,rfl,Hh (fun h=>HN6.out.2.2.2 h),Hh (by rw[←HEQ.out];simp),HRS4,HB4⟩
    case measure =>
     have h1:=HN6.out;have h2:=HAR.out
     have:=h1.1
     simp[intOf];omega
  · obtain rfl:a=65536:=om
    have hE:=HE.out;rw[Ov HASC.out,show aS []=[] from rfl,List.append_nil] at hE
    have HEQ:=Hh hE;clear hE;go_wp2_with fail
    go_ret;exact⟨_,pre,rfl,HEQ.out,HRS.out,HB.out⟩
theorem Ht {B b:Nat} {bs:List Value} {W W':World} (h:IsB B b bs W) (hb:Below W.heap.size W W'):IsB B b bs W':=by
 rcases h with⟨h1,v,h2,h3,h4⟩|⟨h1,v,h2,h3,h4⟩
 · exact .inl ⟨h1,v,aB h2 hb (aA h2),bK h3 hb,h4⟩
 · exact .inr ⟨h1,v,aB h2 hb (aA h2),bK h3 hb,h4⟩
theorem lP {B b:Nat} {bs:List Value} {W:World} (h:IsB B b bs W):b<W.heap.size:=by
 rcases h with⟨_,v,h2,_,_⟩|⟨_,v,h2,_,_⟩<;>exact aA h2
theorem rU (b m:Nat) (h:b<m):SOk (SB b) m:=fun A B hm hb k hk=>Lv (fun o ho=>by
 left
 have hl:b<A.heap.size:=om
 have h1:A.heap[b]? = some A.heap[b]:=Array.getElem?_eq_getElem hl;have h2:=aB h1 hb hl;rw[ho] at h2;rw[h1,←h2]) k hk
theorem Lw {B b:Nat} {bs:List Value} {W:World} (h:IsB B b bs W) (k:Nat) (hk:SB b W k):k<W.heap.size:=by
 rcases h with⟨_,v,h2,h3,_⟩|⟨_,v,h2,h3,_⟩ <;>
 · rcases (fY h2 k).1 hk with rfl|h4
   · exact aA h2
   · exact (h3.lt k h4).2
structure WrI (b n1:Nat) (w2:World) (t:List UInt8) (W:World):Prop where
 bu:IsB b b (Lib.byteCells t) W
 buf:∀ k,SB b W k→k=b∨w2.heap.size≤k
 kept:lZ n1 w2 W
 size:w2.heap.size≤W.heap.size
theorem WrI.below {b n1:Nat} {w2 W W':World} {t:List UInt8} (h:WrI b n1 w2 t W) (hb:Below W.heap.size W W'):WrI b n1 w2 t W' :=
 ⟨Ht h.bu hb,fun k hk=>h.buf k (rU b (b+1) (Nat.lt_succ_self b) W W' (lP h.bu) hb k hk),fun k o hk ho hc=>aB (h.kept k o hk ho hc) hb (aA (h.kept k o hk ho hc)),Nat.le_trans h.size hb.size⟩
theorem WrI.kp {b n1:Nat} {w2 W W':World} {t t':List UInt8} (h:WrI b n1 w2 t W) (hn:b<n1) (hk:KpS (SB b) W W') (hb:IsB b b (Lib.byteCells t') W'):WrI b n1 w2 t' W' :=
 ⟨hb,fun k hs=>by
  rcases hk.2.2 k hs with h1|h1
  · exact h.buf k h1
  · exact .inr (Nat.le_trans h.size h1),fun k o h1 ho hc=>hk.2.1 k o (h.kept k o h1 ho hc) hc (fun hs=>by
  rcases h.buf k hs with h2|h2
  · omega
  · have:=aA ho;omega),Nat.le_trans h.size hk.1⟩
theorem WrI.rows {T:TypeId} {b n1:Nat} {w2 W:World} {t:List UInt8} {v:Value} {rs:List RnX} (h:WrI b n1 w2 t W) (hr:RnsAt T w2 n1 v rs):RnsAt T W n1 v rs:=hr.on h.kept lr
theorem Zo (a:List UInt8) (s:ByteArray):Lib.byteCells a++Lib.strCells s=Lib.byteCells (a++s.data.toList):=by
 unfold Lib.byteCells Lib.strCells;rw[List.map_append]
theorem Ui (a:List UInt8):(Lib.byteCells a).length=a.length:=by simp[Lib.byteCells]
theorem xU {B b:Nat} {bs:List Value} {W:World} (h:IsB B b bs W) (k:Nat) (hk:SB b W k):∃ o,W.heap[k]? = some o∧o.isCells=true:=by
 rcases h with⟨_,v,h2,h3,_⟩|⟨_,v,h2,h3,_⟩ <;>
 · rcases (fY h2 k).1 hk with rfl|h4
   · exact⟨_,h2,rfl⟩
   · rcases h3.2 with⟨rfl,_⟩|⟨g,cap,cur,rfl,_,hg,_⟩
     · simp[Value.ownBlock] at h4
     · simp[Value.ownBlock] at h4
       subst h4;exact⟨_,hg,rfl⟩
theorem Co {B b:Nat} {bs:List Value} {W W':World} (h:IsB B b bs W) (hk:KpA (SB b) W W'):KeepsOthers W W':=⟨hk.1,fun k o ho hc=>hk.2.1 k o ho (fun hs=>by
 obtain⟨o',h1,h2⟩:=xU h k hs;rw[ho] at h1;cases h1;rw[hc] at h2;cases h2)⟩
theorem rG (b n1:Nat) (w2:World) (t:List UInt8) (s:ByteArray) (W:World) (h:WrI b n1 w2 t W) (hn:b<n1) (hl:t.length+s.size≤140737488355328) :
 Calls prog 38 #[.pointer (some ⟨b,0,none⟩),.string s] W fun e W'=>e=.returned (.tuple #[.int .i64 s.size,.nilIface])∧WrI b n1 w2 (t++s.data.toList) W'∧Below b W W'∧KpA (SB b) W W':=by
 refine (Qf b b (Lib.byteCells t) s W h.bu (by rw[Ui];exact hl) (Nat.le_of_lt (lP h.bu))).mono ?_;rintro e W' ⟨rfl,h1,h2,h3⟩;rw[Zo] at h1;exact⟨rfl,h.kp hn (Vt h3) (.inr h1),h2,h3⟩
end Go.Proofs.YtoigglljnklhlaaGreatDoor
