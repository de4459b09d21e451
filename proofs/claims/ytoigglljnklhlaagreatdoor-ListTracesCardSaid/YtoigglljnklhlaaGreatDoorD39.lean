/- Joined. -/
import Derived.Test.YtoigglljnklhlaaGreatDoorD38
set_option maxHeartbeats 8000000
set_option maxRecDepth 100000
namespace Go.Proofs.YtoigglljnklhlaaGreatDoor
open Go.RowKit Go.Sort
open Go.Proofs.Tryz
def Jn:List Value→Nat→Bool
 | [],k=>decide (k=66561)
 | v::l,k=>match v with
   | .int t n=>match (if k<1024 then decide (t=.u64) else if k=1024 then decide (t=.i64) else decide (t=.u8)) && decide (n=0) with
     | true=>Jn l (k+1)
     | false=>false
   | _=>false
theorem z94:Jn (Tryz.zeroCells94).toList 0=true:=by kernel_rfl
def zty (k:Nat):IntKind:=if k<1024 then .u64 else if k=1024 then .i64 else .u8
theorem xH:∀ (l:List Value) (k:Nat),Jn l k=true→k+l.length=66561∧∀ i,i<l.length→l[i]? = some (.int (zty (k+i)) 0)
 | [],k,h=>by simp[Jn] at h;exact⟨by simpa using h,fun i hi=>absurd hi (Qw _)⟩
 | v::l,k,h=>by
   unfold Jn at h;split at h
   · rename_i t n;split at h
     · rename_i hc;obtain⟨h1,h2⟩:=xH l (k+1) h;rw[Qe,Qf] at hc;refine⟨by rw[Qp];omega,fun i hi=>?_⟩
       cases i with
       | zero =>
         rw[Zg,hc.2];congr 2
         have h3:=hc.1;unfold zty;rw[Xu];by_cases h4:k<1024
         · rw[if_pos h4] at h3 ⊢;simpa using h3
         · rw[if_neg h4] at h3 ⊢;by_cases h5:k=1024
           · rw[if_pos h5] at h3 ⊢;simpa using h3
           · rw[if_neg h5] at h3 ⊢;simpa using h3
       | succ i =>
         rw[Zh,h2 i (by simpa using hi)];congr 3
         omega
     · cases h
   · cases h
theorem Jm (b:Nat) (w:World) (h:w.heap[b]? = some (.cells Tryz.zeroCells94 94 (0,0))):ImgAt b [] w:=by
 obtain⟨h1,h2⟩:=xH _ _ z94;rw[Xb,Xv] at h1;have h3:∀ i,i<66561→(Tryz.zeroCells94)[i]? = some (.int (zty i) 0):=fun i hi=>by
  have:=h2 i (by rw[Xv];omega)
  rw[Xb,Xo] at this;exact this
 refine⟨⟨List.Pairwise.nil,by simp⟩,⟨_,h,h1,fun k hk=>⟨0,?_,?_⟩,?_,fun a ha=>⟨0,?_,fun q hq=>by cases hq⟩⟩⟩
 · rw[h3 k om];unfold zty;rw[if_pos hk];rfl
 · exact Fr k
 · exact h3 1024 om
 · rw[h3 (1025+a) om];unfold zty;rw[if_neg om,if_neg om];rfl
theorem Et (w:World):Calls prog 22 #[] w fun e w'=>e=.returned (.pointer w)∧ImgAt w.heap.size [] w'∧Below w w w':=by
 go_enter func22,ntmps22
 go_wp2_with fail
 go_ret;exact⟨rfl,Jm _ _ (aF _ _),bl⟩
theorem Dr (g o n c:Nat) (l:List UInt8) (hln:l.length=n) (w:World) (hg:g<w) (hc:∀ j x,l[j]? = some x→w.cell? ⟨g,o+j,none⟩=some (.int .u8 x.toNat)) (hl:n≤100000) :
 Calls prog 47 #[.slice (some ⟨g,o,none⟩) n c] w fun e w'=>∃ v,e=.returned v∧w'.ownsRow w 5 1 v n (aT l)∧Below w w w':=by
 obtain⟨i0,hi,hz0,hz1,hz2⟩:=info_parts Tryz.infoByte;have hb0:Below w w (w.alloc (.cells #[] 5)):=br.alloc lr _;have hsrc:eR (w.alloc (.cells #[] 5)) (.slice (some ⟨g,o,none⟩) n c) n (aT l):=.inr ⟨⟨g,o,none⟩,c,rfl,fun j u hu=>by
  have:=Ae (n:=l.length) (fun j x hx=>(hb0.cell (p:=⟨g,o+j,none⟩) hg).trans (hc j x hx)) j u
  rw[Qy] at this;exact this hu⟩
 have HSRC:=Hh hsrc;have hnil:=fun w=>@Lib.run_eql_slice_nil prog w;have hbl:(aT l).length=n*1:=by rw[fS];omega
 clear hc hsrc;go_enter func47,ntmps47
 go_wp2_with (at_builtin;refine fK rfl _ _ 33 rfl w 5 i0 (.int .u8 0) 1 1 underlying33 hi hz0 hz1 hz2 rfl dc _ 0 [] rfl (iI w _ _ 1 lr) _ n (aT l) rfl HSRC.out hbl (fun u hu=>aPb hu) (by unfold maxLen;omega) om sm ?_)
 intro v' w1 hown hgrow _;have hb:=hb0.grown hgrow sm (by intro q hq;cases hq;exact Qk _);have hown2:w1.ownsRow w 5 1 v' n (aT l):=by simpa using hown
 have HOWN:=Hh hown2;have HB:=Hh hb;clear hown hgrow hb hown2;go_wp2_with fail
 go_ret;exact⟨_,rfl,HOWN.out,HB.out⟩
abbrev RnX:=(Nat × List UInt8) × Value
def yC (x:RnX):List Value:=[.int .i64 x.1.1,x.2]
def rnc (l:List RnX):List Value:=l.flatMap yC
theorem lA (l:List RnX) (x:RnX):rnc (l++[x])=rnc l++yC x:=by simp[rnc]
structure RnsAt (T:TypeId) (w:World) (base:Nat) (v:Value) (rs:List RnX):Prop where
 own:w.ownsRow base T 2 v rs.length (rnc rs)
 has:∀ x∈rs,w.ownsRow base 5 1 x.2 x.1.2.length (aT x.1.2)
theorem RnsAt.nil (T:TypeId) (w:World) (base:Nat):RnsAt T w base (.slice none 0 0) []:=⟨Xa _ _ _ _,by simp⟩
theorem RnsAt.below {T:TypeId} {w w':World} {base:Nat} {v:Value} {rs:List RnX} (h:RnsAt T w base v rs) (hb:Below w w w'):RnsAt T w' base v rs:=⟨bK h.own hb,fun x hx=>bK (h.has x hx) hb⟩
theorem RnsAt.mono {T:TypeId} {w:World} {base base':Nat} {v:Value} {rs:List RnX} (h:RnsAt T w base v rs) (hb:base'≤base):RnsAt T w base' v rs:=⟨aP h.own hb,fun x hx=>aP (h.has x hx) hb⟩
theorem RnsAt.on {T:TypeId} {w w':World} {base m:Nat} {v:Value} {rs:List RnX} (h:RnsAt T w base v rs) (hk:lZ m w w') (hm:m≤base):RnsAt T w' base v rs:=⟨lD h.own hk hm,fun x hx=>lD (h.has x hx) hk hm⟩
theorem RnsAt.snoc {T:TypeId} {w w':World} {base:Nat} {v v':Value} {rs:List RnX} {x:RnX} (hT:5≠T) (h:RnsAt T w base v rs) (hx:w.ownsRow base 5 1 x.2 x.1.2.length (aT x.1.2))
 (hown:w'.ownsRow base T 2 v' (rs.length+1) (rnc rs++yC x)) (hg:w.grownBy w' v.ownBlock):RnsAt T w' base v' (rs++[x]):=by
 refine⟨by rw[lA,Qc];exact hown,fun y hy=>?_⟩
 have hy2:w.ownsRow base 5 1 y.2 y.1.2.length (aT y.1.2):=by
  rcases Xs.1 hy with hy|hy
  · exact h.has y hy
  · obtain rfl:y=x:=by simpa using hy
    exact hx
 exact hy2.kept hg (gB hy2 h.own hT)
theorem RnsAt.get {T:TypeId} {w:World} {base:Nat} {v:Value} {rs:List RnX} (h:RnsAt T w base v rs):∃ a cap,v=.slice a rs.length cap∧rs.length≤cap∧(rs≠[]→∃ g o,a=some ⟨g,o,none⟩∧base≤g∧g<w.heap.size∧∀ i x,rs[i]? = some x →
 w.cell? ⟨g,o+i*2,none⟩=some (.int .i64 x.1.1)∧w.cell? ⟨g,o+i*2+1,none⟩=some x.2):=by
 obtain⟨a,cap,hv,hn,hh⟩:=(Row.of_owns h.own).structs yC 2 (fun _=>rfl) dc;refine⟨a,cap,hv,hn,fun hne=>?_⟩;obtain⟨g,o,rfl,hg,hc⟩:=hh hne;refine⟨g,o,rfl,?_,hg,fun i x hx=>⟨hc i x hx 0 dc,hc i x hx 1 dc⟩⟩;exact (h.own.lt g (by rw[hv];rfl)).1
theorem rS (W:World) (x0 x1:Value) (T:TypeId):∀ (j:Nat) (u:Value),[x0,x1][j]? = some u→(W.alloc (.cells #[x0,x1] T)).cell? ((⟨W,0,none⟩:Addr).add j)=some u:=fun j u hu=>by
 rw[bD,Xb,aC (aF _ _)];simpa using hu
theorem aQh {x:Int} {y0:Option Addr} {n0 c0:Nat}:∀ u∈[Value.int .i64 x,.slice y0 n0 c0],u.oneCell'=true:=fun u hu=>by
 simp at hu
 rcases hu with rfl|rfl<;>rfl
theorem Tryz.infoRun:(prog.info? 61).map (fun i=>(i.zero,i.size,i.bytes))=some (some (.agg #[(0:Int),zz]),2,32):=by kernel_rfl
theorem vA {b:Nat} {C:List Cl} {w:World} (h:ImgAt b C w) (a:Nat):∀ n,a+n≤65536→∃ l:List UInt8,l.length=n∧∀ j x,l[j]? = some x→w.cell? ⟨b,1025+a+j,none⟩=some (.int .u8 x.toNat)∧∀ q,nM C (a+j) q→x=q
 | 0,_=>⟨[],rfl,fun j x hj=>by simp at hj⟩
 | n+1,hn=>by
   obtain⟨l,h1,h2⟩:=vA h a n om;obtain⟨c,hc,_,_,_,hb⟩:=h.raw.ex;obtain⟨y,hy,hq⟩:=hb (a+n) om;refine⟨l++[y],by simp[h1],fun j x hj=>?_⟩
   by_cases hjn:j<n
   · rw[Yi om] at hj;exact h2 j x hj
   · have hlt:=(Qd.1 hj).1
     have:j=n:=by simp[h1] at hlt;omega
     subst this;rw[Yf om,h1,Nat.sub_self] at hj;simp at hj
     subst hj;refine⟨?_,hq⟩;rw[aC hc,Yb];exact hy
theorem Ic {C:List Cl} {a:Nat} (h:inC C a=true):∃ q,nM C a q:=by
 simp only[inC,Xx,Yq] at h;obtain⟨c,hc,rfl⟩:=h;exact⟨c.2,hc⟩
theorem Ng (b:Nat) (C:List Cl) (w:World) (hI:ImgAt b C w) (hT:TabB w) (k:Int) (a:Nat) (inn:Bool) (hk:k=(a:Int)) (ha:a≤65536) :
 Calls prog 44 #[.pointer b,k,.bool inn] w fun e w'=>∃ r:Nat,e=.returned r∧vT (inC C) a inn r∧w=w':=by
 subst hk;exact yQ b (inC C) (nM C) C.length a inn w hI.raw hT ha
theorem xW (b:Nat) (C:List Cl) (w:World) (hI:ImgAt b C w) (hT:TabB w) (hn:C.length≤60000) :
 Calls prog 25 #[.pointer b] w fun e w'=>∃ v rs,e=.returned v∧rs.map Prod.fst=aS C∧RnsAt 61 w' w v rs∧Below w w w':=by
 obtain⟨i0,hi,hz0,hz1,hz2⟩:=info_parts Tryz.infoRun;have hbl:=hI.raw.lt;have hcl:=iH C;have HIW:=Hh (fun W (hb:Below w w W)=>hI.below hb hbl);have HNX:=Hh (fun W (hb:Below w w W) (k:Int) (a:Nat) inn (hk:k=(a:Int)) (ha:a≤65536)=>Ng b C W (hI.below hb hbl) (hT.below hb) k a inn hk ha);have HASC:=Hh hI.asc;have HCL:=Hh hcl;clear hI hT hcl;go_enter func25,ntmps25
 go_wp2_with fail
 (with_reducible refine (HNX.out _ br 0 0 true rfl om).mono ?_);rintro e w1 ⟨r,rfl,hr,rfl⟩;have hr2:gS (inC C) 0 r:=by unfold vT at hr;simpa using hr
 have hst:aS (gN C r)=aS C:=by rw[←vF hr2,Ie]
 have HST:=Hh hst;have HR:=Hh hr2;clear hr hr2 hst;go_wp2_with fail
 go_loopw [3,4] (fun o f wr=>∃ (a:Nat) (pre:List RnX),a≤65536∧f=.int .i64 a∧Hid (a<65536→inC C a=true)∧Hid (pre.map Prod.fst++aS (gN C a)=aS C)∧Hid (RnsAt 61 wr w o pre)∧Hid (Below w w wr)) (fun _ f _=>65536 - (intOf f).toNat)
 case atStart=>exact⟨r,[],HR.out.2.1,rfl,Hh (fun h=>HR.out.2.2.2 h),Hh (by simpa using HST.out),Hh (RnsAt.nil _ _ _),Hh br⟩
 case round =>
  obtain⟨a,pre,ha,rfl,HIN,HE,HRS,HB⟩:=hrel;obtain⟨av,cv,rfl⟩:=aI HRS.out.own;by_cases hlt:a<65536
  · have hin:=HIN.out hlt;have hi1:(a:Int)<65536:=om
    go_wp2_with fail
    (with_reducible refine (HNX.out _ HB.out a a false rfl ha).mono ?_);rintro e w2 ⟨r2,rfl,hr2,rfl⟩;have hr3:gS (fun x=>!inC C x) a r2:=by unfold vT at hr2;simpa using hr2
    obtain⟨k1,k2,k3,k4⟩:=hr3;have har:a<r2:=by
     rcases Zb a r2 with h1|h1
     · exact h1
     · obtain rfl:a=r2:=om
       have:=k4 hlt
       simp[hin] at this
    obtain⟨bs,hbl1,hbs⟩:=vA (HIW.out _ HB.out) a (r2 - a) om;have hhas:∀ i x,bs[i]? = some x→nM C (a+i) x:=fun i x hx=>by
     have hib:=(Qd.1 hx).1;have h1:=k3 (a+i) om om;obtain⟨q,hq⟩:=Ic (C:=C) (a:=a+i) (by simpa using h1)
     have:=(hbs i x hx).2 q hq
     rw[this];exact hq
    have hcl:=HCL.out;have hpl:pre.length≤65536∧bs.length≤65536:=⟨by
     have h1:=congrArg List.length HE.out;rw[Qc,Qs] at h1;omega,om⟩
    have HCLN:=Hh (fun W (hb:Below wr wr W)=>Dr b (1025+a) (r2 - a) (65536 - a) bs hbl1 W (Qj (HIW.out _ HB.out).raw.lt hb.size) (fun j x hj=>(hb.cell (p:=⟨b,1025+a+j,none⟩) (HIW.out _ HB.out).raw.lt).trans (hbs j x hj).1) om);have hsl:=fun W=>wA b a r2 har k2 W;have HK:=Hh (show gS (fun x=>!inC C x) a r2 from⟨k1,k2,k3,k4⟩)
    have HBS:=Hh hhas;have HBL1:=Hh hbl1;have HAR:=Hh (And.intro har (And.intro k2 hlt));obtain⟨hp1,hp2⟩:=hpl;have hsz:=HB.out.size;clear hr2 k1 k2 k3 k4 hbs hhas hbl1 hcl har hlt hin;go_wp2_with fail
    (with_reducible refine (HCLN.out _ br).mono ?_);rintro e w3 ⟨vd,rfl,hod,hb3⟩;obtain⟨ad,cd,rfl⟩:=aI hod;have HRS3:=Hh (HRS.out.below hb3);have HB3:=Hh (HB.out.trans (hb3.mono hsz));have HOD:=Hh (aP hod hsz);have hsz3:=HB3.out.size;clear hod hb3;go_wp2_with (at_builtin;refine wpList_append_own _ rfl _ _ 59 rfl w 61 i0 (.agg #[(0:Int),zz]) 2 32 underlying59 hi hz0 hz1 hz2 rfl dc _ _ _ rfl (HRS3.out.own.alloc _) ⟨w3,0,none⟩ 1 1 [.int .i64 a,.slice ad (r2 - a) cd] rfl rfl (rS _ _ _ _) aQh (by unfold maxLen;omega) om (by simp;omega) ?_)
    intro v' w4 hown' hg4 _;obtain⟨g',cap',rfl⟩:=ownsRow_succ hown';have hal:Below w3 w3 (w3.alloc (.cells #[a,.slice ad (r2 - a) cd] 61)):=br.alloc lr _;have hx4:w3.ownsRow w 5 1 (.slice ad (r2 - a) cd) bs.length (aT bs):=by rw[HBL1.out];exact HOD.out
    have hrs4:=(HRS3.out.below hal).snoc (x:=((a,bs),.slice ad (r2 - a) cd)) dc (bK hx4 hal) hown' hg4;have hb4:Below w w w4:=(HB3.out.trans (hal.mono hsz3)).grown hg4 (by rw[Qa];omega) (fun k hk=>(HRS3.out.own.lt k hk).1);have HRS4:=Hh hrs4;have HB4:=Hh hb4;clear hrs4 hb4 hown' hg4 hal hx4;have h2i:(r2:Int)≤65536:=by have:=HAR.out;omega
    go_wp2_with fail
    (with_reducible refine (HNX.out _ HB4.out r2 r2 true rfl HAR.out.2.1).mono ?_);rintro e w5 ⟨a',rfl,hr5,rfl⟩;have hr6:gS (inC C) r2 a':=by unfold vT at hr5;simpa using hr5
    obtain⟨hrr,hlt⟩:=Be HASC.out HAR.out.2.2 (HIN.out HAR.out.2.2) HK.out hr6 bs HBL1.out HBS.out;have hE:=HE.out;rw[hrr] at hE;have HEQ:=Hh hE;have HN6:=Hh hr6;clear hr5 hr6 hrr hE hlt;go_wp2_with fail
    go_roundw
    case rel=>exact⟨a',pre++[((a,bs),.slice ad (r2 - a) cd)],HN6.out.2.1,rfl,Hh (fun h=>HN6.out.2.2.2 h),Hh (by rw[←HEQ.out];simp),HRS4,HB4⟩
    case measure =>
     have h1:=HN6.out;have h2:=HAR.out
     have:=h1.1
     simp[intOf];omega
  · obtain rfl:a=65536:=om
    have hE:=HE.out;rw[Ov HASC.out,show aS []=[] from rfl,Zd] at hE
    have HEQ:=Hh hE;clear hE;go_wp2_with fail
    go_ret;exact⟨_,pre,rfl,HEQ.out,HRS.out,HB.out⟩
theorem Ht {B b:Nat} {bs:List Value} {W W':World} (h:IsB B b bs W) (hb:Below W W W'):IsB B b bs W':=by
 rcases h with⟨h1,v,h2,h3,h4⟩|⟨h1,v,h2,h3,h4⟩
 · exact .inl ⟨h1,v,aB h2 hb (aA h2),bK h3 hb,h4⟩
 · exact .inr ⟨h1,v,aB h2 hb (aA h2),bK h3 hb,h4⟩
theorem lP {B b:Nat} {bs:List Value} {W:World} (h:IsB B b bs W):b<W.heap.size:=by
 rcases h with⟨_,v,h2,_,_⟩|⟨_,v,h2,_,_⟩<;>exact aA h2
theorem rU (b m:Nat) (h:b<m):SOk (SB b) m:=fun A B hm hb k hk=>Lv (fun o ho=>by
 left
 have hl:b<A:=om
 have h1:A.heap[b]? = some A.heap[b]:=Yk hl;have h2:=aB h1 hb hl;rw[ho] at h2;rw[h1,←h2]) k hk
theorem Lw {B b:Nat} {bs:List Value} {W:World} (h:IsB B b bs W) (k:Nat) (hk:SB b W k):k<W.heap.size:=by
 rcases h with⟨_,v,h2,h3,_⟩|⟨_,v,h2,h3,_⟩ <;>
 · rcases (fY h2 k).1 hk with rfl|h4
   · exact aA h2
   · exact (h3.lt k h4).2
structure WrI (b n1:Nat) (w2:World) (t:List UInt8) (W:World):Prop where
 bu:IsB b b (Lib.byteCells t) W
 buf:∀ k,SB b W k→k=b∨w2.heap.size≤k
 kept:lZ n1 w2 W
 size:w2.heap.size≤W.heap.size
theorem WrI.below {b n1:Nat} {w2 W W':World} {t:List UInt8} (h:WrI b n1 w2 t W) (hb:Below W W W'):WrI b n1 w2 t W' :=
 ⟨Ht h.bu hb,fun k hk=>h.buf k (rU b (b+1) (Yg b) W W' (lP h.bu) hb k hk),fun k o hk ho hc=>aB (h.kept k o hk ho hc) hb (aA (h.kept k o hk ho hc)),Qn h.size hb.size⟩
theorem WrI.kp {b n1:Nat} {w2 W W':World} {t t':List UInt8} (h:WrI b n1 w2 t W) (hn:b<n1) (hk:KpS (SB b) W W') (hb:IsB b b (Lib.byteCells t') W'):WrI b n1 w2 t' W' :=
 ⟨hb,fun k hs=>by
  rcases hk.2.2 k hs with h1|h1
  · exact h.buf k h1
  · exact .inr (Qn h.size h1),fun k o h1 ho hc=>hk.2.1 k o (h.kept k o h1 ho hc) hc (fun hs=>by
  rcases h.buf k hs with h2|h2
  · omega
  · have:=aA ho;omega),Qn h.size hk.1⟩
theorem WrI.rows {T:TypeId} {b n1:Nat} {w2 W:World} {t:List UInt8} {v:Value} {rs:List RnX} (h:WrI b n1 w2 t W) (hr:RnsAt T w2 n1 v rs):RnsAt T W n1 v rs:=hr.on h.kept lr
theorem aQd (a:List UInt8) (s:ByteArray):Lib.byteCells a++Lib.strCells s=Lib.byteCells (a++s.data.toList):=by
 unfold Lib.byteCells Lib.strCells;rw[Ym]
theorem Ui (a:List UInt8):(Lib.byteCells a).length=a.length:=by simp[Lib.byteCells]
theorem xU {B b:Nat} {bs:List Value} {W:World} (h:IsB B b bs W) (k:Nat) (hk:SB b W k):∃ o,W.heap[k]? = some o∧o.isCells=true:=by
 rcases h with⟨_,v,h2,h3,_⟩|⟨_,v,h2,h3,_⟩ <;>
 · rcases (fY h2 k).1 hk with rfl|h4
   · exact⟨_,h2,rfl⟩
   · rcases h3.2 with⟨rfl,_⟩|⟨g,cap,cur,rfl,_,hg,_⟩
     · simp[Value.ownBlock] at h4
     · simp[Value.ownBlock] at h4
       subst h4;exact⟨_,hg,rfl⟩
theorem Co {B b:Nat} {bs:List Value} {W W':World} (h:IsB B b bs W) (hk:KpA (SB b) W W'):KeepsOthers W W':=⟨hk.1,fun k o ho hc=>hk.2.1 k o ho (fun hs=>by
 obtain⟨o',h1,h2⟩:=xU h k hs;rw[ho] at h1;cases h1;rw[hc] at h2;cases h2)⟩
theorem rG (b n1:Nat) (w2:World) (t:List UInt8) (s:ByteArray) (W:World) (h:WrI b n1 w2 t W) (hn:b<n1) (hl:t.length+s.size≤140737488355328) :
 Calls prog 38 #[.pointer b,.string s] W fun e W'=>e=.returned (.tuple #[s.size,.nilIface])∧WrI b n1 w2 (t++s.data.toList) W'∧Below b W W'∧KpA (SB b) W W':=by
 refine (aPc b b (Lib.byteCells t) s W h.bu (by rw[Ui];exact hl) (Xr (lP h.bu))).mono ?_;rintro e W' ⟨rfl,h1,h2,h3⟩;rw[aQd] at h1;exact⟨rfl,h.kp hn (Vt h3) (.inr h1),h2,h3⟩
theorem aNV (ad:Nat) (x:It) (vr va:Value) (w:World) (ha:ad≤65535) (hvr:∃ a n c,vr=.slice a n c) (hva:∃ a n c,va=.slice a n c) :
 Calls prog 71 #[ad,itV x vr va] w fun e w'=>e=.returned (hx 4 ad)∧Below w w w':=by
 obtain⟨ar,nr,cr,rfl⟩:=hvr;obtain⟨aa,na,ca,rfl⟩:=hva;obtain⟨ki,ra,⟨im,ia⟩,ial⟩:=x;have HX4:=Hh (fun W=>(show Calls prog 63 #[ad,(4:Int)] W _ from aDk ad 4 W om (.inr rfl)))
 dsimp only[itV];go_enter func71,ntmps71
 go_wp2_with fail
 (with_reducible refine (HX4.out _).mono ?_);rintro e w1 ⟨rfl,hb1⟩;have HB1:=Hh (((Below.refl w w).alloc (o:=.cells #[ki,.slice ar nr cr,im,.slice aa na ca,.bool ial] 55) lr).trans (hb1.mono (by rw[Qa];omega)));clear hb1;go_wp2_with fail
 go_ret;exact⟨rfl,HB1.out⟩
theorem aNU (ad:Int) (x:It) (vr va:Value) (w:World) (hT:TabsA w) (hr:Row w vr x.raw.length (aT x.raw)) (ha:Row w va x.ins.2.length (opc x.ins.2)) (hrl:x.raw.length≤100000) (hal:x.ins.2.length≤900) (hml:x.ins.1.length≤1000) :
 Calls prog 73 #[ad,itV x vr va] w fun e w'=>e=.returned (.string (dH x))∧Below w w w':=by
 have hI:=fun X (hb:Below w w X)=>Hq x vr va X (hT.below hb) (hr.below hb) (ha.below hb) hrl hal hml;obtain⟨T,hTT⟩:∃ T,dH x=T:=⟨_,rfl⟩;rw[hTT] at hI ⊢;have HI:=Hh hI;obtain⟨ki,ra,⟨im,ia⟩,ial⟩:=x;dsimp only at hr ha;obtain⟨ar,cr,rfl,_,_⟩:=hr;obtain⟨aa,ca,rfl,_,_⟩:=ha;clear hI hT hTT;dsimp only[itV] at HI ⊢;go_enter func73,ntmps73
 go_wp2_with fail
 (with_reducible refine (HI.out _ (br.alloc lr _)).mono ?_);rintro e w1 ⟨rfl,hb1⟩;have HB1:=Hh (((Below.refl w w).alloc (o:=.cells #[ki,.slice ar ra.length cr,im,.slice aa ia.length ca,.bool ial] 55) lr).trans (hb1.mono (by rw[Qa];omega)));clear hb1;go_wp2_with fail
 go_ret;exact⟨rfl,HB1.out⟩
theorem aLP (c:Nat) (w:World) (h2:2≤c) (hc:c≤100):Calls prog 74 #[.string ⟨#[32]⟩,c] w fun e w'=>e=.returned (.string ⟨Array.replicate c 32⟩)∧Below w w w':=by
 have h:=Tryz.strings_Repeat_main ⟨#[32]⟩ c w h2 om (by show 1*c≤_;omega) dc;have hr:∀ n:Nat,Lib.repeatL [32] n=List.replicate n 32:=fun n=>by
  induction n with
  | zero=>rfl
  | succ n ih=>rw[Lib.repeatL,ih];rfl
 rw[show (⟨#[32]⟩:ByteArray).data.toList=[32] from rfl,hr,show (List.replicate c (32:UInt8)).toArray=Array.replicate c 32 by simp] at h
 exact h
theorem aLQ (c:Nat):(⟨Array.replicate c 32⟩:ByteArray).size=c:=by
 show (Array.replicate c (32:UInt8)).size=c
 rw[Array.size_replicate]
theorem aLZ (c:Nat):(⟨Array.replicate c 32⟩:ByteArray).data.toList.length=c:=by simp
theorem aMP (s:ByteArray):s.data.toList.length=s.size:=by
 rw[Xv];rfl
theorem aMH {b k:Nat} {bs:List Value} {W:World} {c:Array Value} {T:TypeId} (h:IsB b b bs W) (hk:W.heap[k]? = some (.cells c T (0,0))) (hT:T≠5) (hT2:T≠77):¬ SB b W k:=by
 rintro⟨p,v,hb,rfl|hv⟩
 · rw[hb] at hk;cases hk
   exact hT2 rfl
 · rcases h with⟨_,v',h2,h3,_⟩|⟨_,v',h2,h3,_⟩;all_goals
    rw[hb] at h2;cases h2
    rcases h3.2 with⟨h4,_⟩|⟨g,cap,cur,h4,_,h5,_⟩
    · rw[h4] at hv;cases hv
    · rw[h4] at hv;simp only[Value.ownBlock,Option.some.injEq] at hv;subst hv;rw[h5] at hk;cases hk
      exact hT rfl
theorem aNR {a:Nat} {x:It} {T0 T1 T2 T3 T4 T5:List UInt8} {S0 S1 S2:ByteArray} {C0 C1:Nat} (h0:[]=T0) (h1:T0++S0.data.toList=T1) (h2:T1++(⟨Array.replicate C0 32⟩:ByteArray).data.toList=T2) (h3:T2++S1.data.toList=T3)
 (h4:T3++(⟨Array.replicate C1 32⟩:ByteArray).data.toList=T4) (h5:T4++S2.data.toList=T5) (q0:(⟨(hx 4 a).toArray⟩:ByteArray)=S0) (q1:(⟨(aKI x.raw).toArray⟩:ByteArray)=S1) (q2:dH x=S2) (c0:2=C0) (c1:max (12 - S1.size) 2=C1) :
 T5=(aKR a x++List.replicate (18 - (aKR a x).length) 32)++(dH x).data.toList:=by
 subst h0 h1 h2 h3 h4 h5 q0 q1 q2 c0 c1;have hl:(⟨(aKI x.raw).toArray⟩:ByteArray).size=(aKI x.raw).length:=by show (aKI x.raw).toArray.size=_;rw[Qx]
 have hp:(aKR a x).length=8+(aKI x.raw).length:=by
  unfold aKR;rw[Qc,Qc,Qc,aCI];show 4+2+_+2=_
  omega
 have hb:List.replicate (max (12 - (aKI x.raw).length) 2) (32:UInt8)=[32,32]++List.replicate (18 - (8+(aKI x.raw).length)) 32:=by
  rw[show max (12 - (aKI x.raw).length) 2=2+(18 - (8+(aKI x.raw).length)) by omega,←List.replicate_append_replicate]
  rfl
 rw[hp,hl];unfold aKR;have h2:List.replicate 2 (32:UInt8)=[32,32]:=rfl;simp only[Ye,Array.toList_replicate,hb,h2,Yc]
theorem aMO (W:World) (o o':Obj):((W.alloc o).alloc o').heap[W.heap.size+1]? = some o':=by
 have:=aF (W.alloc o) o'
 rwa [Qa] at this
theorem aNT (ad:Int) (x:It) (vr va:Value) (B0:Nat) (w:World) (hT:∀ W,Below w w W→TabsA W) (hI:ItAt B0 x vr va w) (hi:Am x) (hrl:x.raw.length≤4) :
 Calls prog 39 #[ad,itV x vr va] w fun e w'=>e=.returned (.string (aLi ad x))∧Below w w w':=by
 have hi9:x.ins.2.length≤900∧x.ins.1.length≤1000:=⟨Qn hi.2 dc,Qn hi.1 dc⟩;have hR2:=fun a X (hb:Below w w X)=>aNU a x vr va X (hT X hb) (Row.of_owns (hI.below hb).raw) (hI.args.row.row.below hb) om hi9.1 hi9.2;have hRW:=fun a X (hb:Below w w X)=>aNW a x vr va B0 X (hI.below hb) om;have hlsz:(mP (bV (x.ins.1,x.ins.2)).2).size≤1000000:=by
  have h1:=uW (bV (x.ins.1,x.ins.2)).2;have h2:=kM (x.ins.1,x.ins.2);have h3:=hi9.1;dsimp only at h2;omega
 have hSH:=fun X (hb:Below w w X)=>Ll x.ins.1 va x.ins.2 X (hT X hb) (hI.args.row.row.below hb) hi9.1 hi9.2 hlsz;have hsz3:=Bc x.ins hi.1 hi.2;have hsl1:=aI hI.raw;have hsl2:=aI hI.args.own;have hR1:=fun (a:Nat) X (ha:a≤65535)=>aNV a x vr va X ha ⟨_,_,_,hsl1.choose_spec.choose_spec⟩ ⟨_,_,_,hsl2.choose_spec.choose_spec⟩;obtain⟨R,hR⟩:∃ R,aLi ad x=R:=⟨_,rfl⟩;rw[hR];unfold aLi at hR;have HR1:=Hh hR1;have HR2:=Hh hR2;have HRW:=Hh hRW;have HR:=Hh hR;have HSH:=Hh hSH;have HSZ:=Hh hsz3;obtain⟨ki,ra,⟨im,ia⟩,ial⟩:=x;obtain⟨ar,cr,rfl⟩:=hsl1;obtain⟨aa,ca,rfl⟩:=hsl2;have his:(dH ⟨ki,ra,(im,ia),ial⟩).size≤100000:=by
  have:=Cp _ hi
  dsimp only at this hrl;omega
 dsimp only at hrl;clear hR1 hR2 hRW hR hi9 hi hI hSH hsz3 hlsz;unfold eU at HSH;unfold itV at HR1 HR2 HRW;dsimp only[itV];obtain⟨W0,hW0⟩:∃ W,(w.alloc (.cells #[ki,.slice ar ra.length cr,im,.slice aa ia.length ca,.bool ial] 55)).alloc (.cells #[ad] 3)=W:=⟨_,rfl⟩;have hb0:Below w w W0:=by rw[←hW0];exact bl
 have hx0:W0.heap[w.heap.size]? = some (.cells #[ki,.slice ar ra.length cr,im,.slice aa ia.length ca,.bool ial] 55 (0,0)):=by rw[←hW0];exact aE (aF _ _)
 have hc0:W0.cell? ⟨w+1,0,none⟩=some (.int .i64 ad):=by
  rw[←hW0]
  have:=aC (aF (w.alloc (.cells #[ki,.slice ar ra.length cr,im,.slice aa ia.length ca,.bool ial] 55)) (.cells #[ad] 3)) 0
  rw[Qa] at this;exact this
 have HFT:=Hh (jS 0 65535 ad (w.heap.size+1) W0 hc0);have HB0:=Hh hb0;have HX0:=Hh hx0;have HW0:=Hh hW0;clear hb0 hx0 hc0 hW0;by_cases hin:¬ (0≤ad∧ad≤65535)
 · obtain rfl:⟨#[]⟩=R:=by rw[←HR.out,if_pos om]
   have hd:(decide (0≤ad) && decide (ad≤65535))=false:=by
    rw[Bool.and_eq_false_iff];by_cases h:0≤ad
    · exact .inr (Qg (fun h2=>hin ⟨h,h2⟩))
    · exact .inl (Qg h)
   rw[hd] at HFT;clear hin hd;go_enter func39,ntmps39
   go_wp2_with fail
   rw[HW0.out];(with_reducible refine HFT.out.mono ?_);rintro e w2 ⟨rfl,rfl⟩;go_wp2_with fail
   go_ret;exact⟨rfl,HB0.out⟩
 obtain⟨g1,g2⟩:=Classical.not_not.1 hin;clear hin;rw[Qh g1,Qh g2] at HFT;obtain⟨a,rfl⟩:∃ a:Nat,ad=a:=⟨ad.toNat,om⟩
 go_enter func39,ntmps39
 go_wp2_with fail
 rw[HW0.out];(with_reducible refine HFT.out.mono ?_);rintro e w2 ⟨rfl,rfl⟩;clear HW0 HFT;go_wp2_with fail
 generalize hW1:World.alloc (World.alloc W0 _) _=W1;have hbk:W1.heap[W0.heap.size+1]? = some (.cells #[.pointer none,zz] 77 (0,0)):=by rw[←hW1];exact aMO _ _ _
 have hb01:Below W0 W0 W1:=by rw[←hW1];exact (br.alloc lr _).alloc (by rw[Qa];omega) _
 have hxb:W1.heap[w.heap.size]? = some (.cells #[ki,.slice ar ra.length cr,im,.slice aa ia.length ca,.bool ial] 55 (0,0)):=aB HX0.out hb01 (aA HX0.out);have hwb:w.heap.size<W0.heap.size+1:=Nat.lt_succ_of_lt (aA HX0.out);have HB1:=Hh (HB0.out.trans (hb01.mono HB0.out.size));clear hW1 hb01 HX0 HB0;generalize W0.heap.size+1=b at *;have h0:WrI b (b+1) W1 [] W1:=⟨.inl ⟨Qk _,_,hbk,Xa _ _ _ _,by simp[Value.ownBlock]⟩,(fun k hk=>((fY hbk k).1 hk).elim .inl (fun h=>absurd h (by simp[Value.ownBlock]))),fun _ _ _ ho _=>ho,Qk _⟩
 have H0:=Hh h0;have HXB:=Hh hxb;have HWB:=Hh hwb;obtain⟨⟨p0,p1,p2,p3,p4⟩,_⟩:=bJ hxb;have hl0:=aA hxb;clear h0 hbk hxb hwb;have hi0:∀ W,(Instr.index 130 (.agg #[.func (.func 71) #[] #[],(6:Int),.func (.func 72) #[] #[],(12:Int),.func (.func 73) #[] #[],(0:Int)]) (.int .i64 0)).run prog W=.ok (.agg #[.func (.func 71) #[] #[],(6:Int)]) W:=fun W=>by kernel_rfl
 have hi1:∀ W,(Instr.index 130 (.agg #[.func (.func 71) #[] #[],(6:Int),.func (.func 72) #[] #[],(12:Int),.func (.func 73) #[] #[],(0:Int)]) (.int .i64 1)).run prog W=.ok (.agg #[.func (.func 72) #[] #[],(12:Int)]) W:=fun W=>by kernel_rfl
 have hi2:∀ W,(Instr.index 130 (.agg #[.func (.func 71) #[] #[],(6:Int),.func (.func 72) #[] #[],(12:Int),.func (.func 73) #[] #[],(0:Int)]) (.int .i64 2)).run prog W=.ok (.agg #[.func (.func 73) #[] #[],(0:Int)]) W:=fun W=>by kernel_rfl
 have HW0:=H0;have HX0:=HXB;have HBW0:=HB1;obtain⟨T0,hT0⟩:∃ t:List UInt8,[]=t:=⟨_,rfl⟩;rw[hT0] at HW0;have HT0:=Hh (show T0.length≤0 from by rw[←hT0];exact Qk _);have HE0:=Hh hT0;have hs0:=fun X (_:Below w w X)=>HR1.out a X om;have hs1:=fun X (hb:Below w w X)=>HRW.out (a:Int) X hb;have hs2:=fun X (hb:Below w w X)=>HR2.out (a:Int) X hb;obtain⟨S0,hS0⟩:∃ s,(⟨(hx 4 a).toArray⟩:ByteArray)=s:=⟨_,rfl⟩;obtain⟨S1,hS1⟩:∃ s,(⟨(aKI ra).toArray⟩:ByteArray)=s:=⟨_,rfl⟩;obtain⟨S2,hS2⟩:∃ s,dH ⟨ki,ra,(im,ia),ial⟩=s:=⟨_,rfl⟩;have hz0:S0.size=4:=by rw[←hS0];show (hx 4 a).toArray.size=4;rw[Qx,aCI]
 have hz1:S1.size≤12:=by rw[←hS1];show (aKI ra).toArray.size≤12;rw[Qx];have:=aLe ra;omega
 have hz2:S2.size≤100000:=by rw[←hS2];exact his
 obtain⟨C0,hC0⟩:∃ c:Nat,2=c:=⟨_,rfl⟩;obtain⟨C1,hC1⟩:∃ c:Nat,max (12 - S1.size) 2=c:=⟨_,rfl⟩;have hc0:max (wrap64 (6 - (S0.size:Int))) 2=(C0:Int):=by rw[←hC0,hz0,IntWalk.wrap64_in _ om];omega
 have hc1:max (wrap64 (12 - (S1.size:Int))) 2=(C1:Int):=by rw[←hC1,IntWalk.wrap64_in _ om];omega
 have HC0:=Hh hc0;have HC1:=Hh hc1;have HD0:=Hh (show 2≤C0∧C0≤12 from by omega);have HD1:=Hh (show 2≤C1∧C1≤12 from by omega);have HZ0:=Hh (show S0.size≤100000 from by omega);have HZ1:=Hh (show S1.size≤100000 from by omega);have HZ2:=Hh hz2;rw[hS0] at hs0;rw[hS1] at hs1;rw[hS2] at hs2;have HS0:=Hh hs0;have HS1:=Hh hs1;have HS2:=Hh hs2;have HQ0:=Hh hS0;have HQ1:=Hh hS1;have HQ2:=Hh hS2;have HCC0:=Hh hC0;have HCC1:=Hh hC1;clear hs0 hs1 hs2 hz0 hz1 hz2 hc0 hc1 hC0 hC1 hS0 hS1 hS2 hT0 HR1 HR2 HRW;refine wp_loop_rounds 5 ?_;rw[rounds_succ];go_wp2_with fail
 have hal0:Below W1 W1 (W1.alloc (.cells #[.func (.func 71) #[] #[],(6:Int)] 129)):=br.alloc lr _;(with_reducible refine (HS0.out _ (HBW0.out.trans (hal0.mono HBW0.out.size))).mono ?_);rintro e A0 ⟨rfl,hb⟩;have h12:=hal0.trans (hb.mono hal0.size);have HWA0:=Hh (HW0.out.below h12);have HCA0:=Hh (aB (aF W1 (.cells #[.func (.func 71) #[] #[],(6:Int)] 129)) hb (by rw[Qa];omega));have HXA0:=Hh (aB HX0.out h12 (aA HX0.out));have HBA0:=Hh (HBW0.out.trans (h12.mono HBW0.out.size));clear hb h12 hal0 p0 p1 p2 p3 p4 hl0;go_wp2_with fail
 (with_reducible refine (rG b (b+1) W1 T0 S0 A0 HWA0.out (Yg b) (by have:=HT0.out;have:=HZ0.out;omega)).mono ?_);rintro e B0 ⟨rfl,hw,hb,hk⟩;obtain⟨T1,hT⟩:∃ t,T0++S0.data.toList=t:=⟨_,rfl⟩;rw[hT] at hw;have HT1:=Hh (show T1.length≤1000000 from by rw[←hT,Qc];have:=HT0.out;have:=HZ0.out;have h3:=aMP S0;omega);have HE1:=Hh hT;have HWB0:=Hh hw;have HCB0:=Hh (hk.2.1 _ _ HCA0.out (aMH HWA0.out.bu HCA0.out dc dc));have HXB0:=Hh (aB HXA0.out hb HWB.out);have HBB0:=Hh (HBA0.out.trans (hb.mono (Xr HWB.out)));clear hw hb hk hT;obtain⟨c0,c1,_⟩:=aL HCB0.out;have hlc:=aA HCB0.out;obtain⟨⟨p0,p1,p2,p3,p4⟩,_⟩:=bJ HXB0.out;have hl0:=aA HXB0.out;go_wp2_with fail
 rw[HC0.out];(with_reducible refine (aLP C0 B0 HD0.out.1 (Qn HD0.out.2 dc)).mono ?_);rintro e D0 ⟨rfl,hb⟩;have HWD0:=Hh (HWB0.out.below hb);have HXD0:=Hh (aB HXB0.out hb (aA HXB0.out));have HBD0:=Hh (HBB0.out.trans (hb.mono HBB0.out.size));clear hb p0 p1 p2 p3 p4 hl0 c0 c1 hlc;go_wp2_with fail
 (with_reducible refine (rG b (b+1) W1 T1 ⟨Array.replicate C0 32⟩ D0 HWD0.out (Yg b) (by have:=HT1.out;have:=HD0.out.2;have h3:=aLQ C0;omega)).mono ?_);rintro e F0 ⟨rfl,hw,hb,hk⟩;obtain⟨T2,hT⟩:∃ t,T1++(⟨Array.replicate C0 32⟩:ByteArray).data.toList=t:=⟨_,rfl⟩;rw[hT] at hw;have HT2:=Hh (show T2.length≤2000000 from by rw[←hT,Qc];have:=HT1.out;have:=HD0.out.2;have h3:=aLZ C0;omega);have HE2:=Hh hT;have HW1:=Hh hw;have HX1:=Hh (aB HXD0.out hb HWB.out);have HBW1:=Hh (HBD0.out.trans (hb.mono (Xr HWB.out)));clear hw hb hk hT;obtain⟨⟨p0,p1,p2,p3,p4⟩,_⟩:=bJ HX1.out;have hl0:=aA HX1.out;go_wp2_with fail
 rw[rounds_succ];go_wp2_with fail
 have hal1:Below F0 F0 (F0.alloc (.cells #[.func (.func 72) #[] #[],(12:Int)] 129)):=br.alloc lr _;(with_reducible refine (HS1.out _ (HBW1.out.trans (hal1.mono HBW1.out.size))).mono ?_);rintro e A1 ⟨rfl,hb⟩;have h12:=hal1.trans (hb.mono hal1.size);have HWA1:=Hh (HW1.out.below h12);have HCA1:=Hh (aB (aF F0 (.cells #[.func (.func 72) #[] #[],(12:Int)] 129)) hb (by rw[Qa];omega));have HXA1:=Hh (aB HX1.out h12 (aA HX1.out));have HBA1:=Hh (HBW1.out.trans (h12.mono HBW1.out.size));clear hb h12 hal1 p0 p1 p2 p3 p4 hl0;go_wp2_with fail
 (with_reducible refine (rG b (b+1) W1 T2 S1 A1 HWA1.out (Yg b) (by have:=HT2.out;have:=HZ1.out;omega)).mono ?_);rintro e B1 ⟨rfl,hw,hb,hk⟩;obtain⟨T3,hT⟩:∃ t,T2++S1.data.toList=t:=⟨_,rfl⟩;rw[hT] at hw;have HT3:=Hh (show T3.length≤3000000 from by rw[←hT,Qc];have:=HT2.out;have:=HZ1.out;have h3:=aMP S1;omega);have HE3:=Hh hT;have HWB1:=Hh hw;have HCB1:=Hh (hk.2.1 _ _ HCA1.out (aMH HWA1.out.bu HCA1.out dc dc));have HXB1:=Hh (aB HXA1.out hb HWB.out);have HBB1:=Hh (HBA1.out.trans (hb.mono (Xr HWB.out)));clear hw hb hk hT;obtain⟨c0,c1,_⟩:=aL HCB1.out;have hlc:=aA HCB1.out;obtain⟨⟨p0,p1,p2,p3,p4⟩,_⟩:=bJ HXB1.out;have hl0:=aA HXB1.out;go_wp2_with fail
 rw[HC1.out];(with_reducible refine (aLP C1 B1 HD1.out.1 (Qn HD1.out.2 dc)).mono ?_);rintro e D1 ⟨rfl,hb⟩;have HWD1:=Hh (HWB1.out.below hb);have HXD1:=Hh (aB HXB1.out hb (aA HXB1.out));have HBD1:=Hh (HBB1.out.trans (hb.mono HBB1.out.size));clear hb p0 p1 p2 p3 p4 hl0 c0 c1 hlc;go_wp2_with fail
 (with_reducible refine (rG b (b+1) W1 T3 ⟨Array.replicate C1 32⟩ D1 HWD1.out (Yg b) (by have:=HT3.out;have:=HD1.out.2;have h3:=aLQ C1;omega)).mono ?_);rintro e F1 ⟨rfl,hw,hb,hk⟩;obtain⟨T4,hT⟩:∃ t,T3++(⟨Array.replicate C1 32⟩:ByteArray).data.toList=t:=⟨_,rfl⟩;rw[hT] at hw;have HT4:=Hh (show T4.length≤4000000 from by rw[←hT,Qc];have:=HT3.out;have:=HD1.out.2;have h3:=aLZ C1;omega);have HE4:=Hh hT;have HW2:=Hh hw;have HX2:=Hh (aB HXD1.out hb HWB.out);have HBW2:=Hh (HBD1.out.trans (hb.mono (Xr HWB.out)));clear hw hb hk hT;obtain⟨⟨p0,p1,p2,p3,p4⟩,_⟩:=bJ HX2.out;have hl0:=aA HX2.out;go_wp2_with fail
 rw[rounds_succ];go_wp2_with fail
 have hal2:Below F1 F1 (F1.alloc (.cells #[.func (.func 73) #[] #[],(0:Int)] 129)):=br.alloc lr _;(with_reducible refine (HS2.out _ (HBW2.out.trans (hal2.mono HBW2.out.size))).mono ?_);rintro e A2 ⟨rfl,hb⟩;have h12:=hal2.trans (hb.mono hal2.size);have HWA2:=Hh (HW2.out.below h12);have HCA2:=Hh (aB (aF F1 (.cells #[.func (.func 73) #[] #[],(0:Int)] 129)) hb (by rw[Qa];omega));have HXA2:=Hh (aB HX2.out h12 (aA HX2.out));have HBA2:=Hh (HBW2.out.trans (h12.mono HBW2.out.size));clear hb h12 hal2 p0 p1 p2 p3 p4 hl0;go_wp2_with fail
 (with_reducible refine (rG b (b+1) W1 T4 S2 A2 HWA2.out (Yg b) (by have:=HT4.out;have:=HZ2.out;omega)).mono ?_);rintro e B2 ⟨rfl,hw,hb,hk⟩;obtain⟨T5,hT⟩:∃ t,T4++S2.data.toList=t:=⟨_,rfl⟩;rw[hT] at hw;have HT5:=Hh (show T5.length≤5000000 from by rw[←hT,Qc];have:=HT4.out;have:=HZ2.out;have h3:=aMP S2;omega);have HE5:=Hh hT;have HWB2:=Hh hw;have HCB2:=Hh (hk.2.1 _ _ HCA2.out (aMH HWA2.out.bu HCA2.out dc dc));have HXB2:=Hh (aB HXA2.out hb HWB.out);have HBB2:=Hh (HBA2.out.trans (hb.mono (Xr HWB.out)));clear hw hb hk hT;obtain⟨c0,c1,_⟩:=aL HCB2.out;have hlc:=aA HCB2.out;obtain⟨⟨p0,p1,p2,p3,p4⟩,_⟩:=bJ HXB2.out;have hl0:=aA HXB2.out;go_wp2_with fail
 have hrow:=aNR (x:=⟨ki,ra,(im,ia),ial⟩) HE0.out HE1.out HE2.out HE3.out HE4.out HE5.out HQ0.out HQ1.out HQ2.out HCC0.out HCC1.out;have HROW:=Hh hrow;clear hrow;cases ial
 · rw[rounds_succ];go_wp2_with fail
   (with_reducible refine (Tryz.Builder_String_any_k b b _ B2 (Lib.IsBuilderF.of HWB2.out.bu) (Xr (lP HWB2.out.bu))).mono ?_);rintro e w9 ⟨rfl,_,hb9,hk9⟩;have HB9:=Hh (HBB2.out.trans (hb9.mono (Xr HWB.out)));clear hb9 hk9;go_wp2_with fail
   go_ret;exact⟨by rw[←HR.out,if_neg om,Xl,aLR,←HROW.out];simp,HB9.out⟩
 · rw[rounds_succ];go_wp2_with fail
   (with_reducible refine (HSH.out _ HBB2.out).mono ?_);rintro e A3 ⟨rfl,hb⟩;have HWA3:=Hh (HWB2.out.below hb);have HBA3:=Hh (HBB2.out.trans (hb.mono HBB2.out.size));clear hb p0 p1 p2 p3 p4 hl0 c0 c1 hlc;have hss:=HSZ.out;go_wp2_with fail
   (with_reducible refine (rG b (b+1) W1 T5 (⟨#[32,32,59,32]⟩++xR (im,ia)) A3 HWA3.out (Yg b) (by have:=HT5.out;rw[Qm,show (⟨#[32,32,59,32]⟩:ByteArray).size=4 from rfl];omega)).mono ?_)
   rintro e B3 ⟨rfl,hw,hb,hk⟩;have HWB3:=Hh hw;have HBB3:=Hh (HBA3.out.trans (hb.mono (Xr HWB.out)));clear hw hb hk hss;go_wp2_with fail
   (with_reducible refine (Tryz.Builder_String_any_k b b _ B3 (Lib.IsBuilderF.of HWB3.out.bu) (Xr (lP HWB3.out.bu))).mono ?_);rintro e w9 ⟨rfl,_,hb9,hk9⟩;have HB9:=Hh (HBB3.out.trans (hb9.mono (Xr HWB.out)));clear hb9 hk9;go_wp2_with fail
   go_ret;exact⟨by rw[←HR.out,if_neg om,Xl,aLR,←HROW.out];simp,HB9.out⟩
end Go.Proofs.YtoigglljnklhlaaGreatDoor
