/- Joined. -/
import Derived.Test.YtoigglljnklhlaaGreatDoorD22
set_option maxHeartbeats 8000000
set_option maxRecDepth 100000
namespace Go.Proofs.YtoigglljnklhlaaGreatDoor
section
open Go.RowKit Go.Sort
def aHi (b p:Nat):List Ent:=(List.range' p (b+1 - p)).flatMap aHg
def aIZ (b p op:Nat):List Ent:=(List.range' op (256 - op)).filterMap (fun o=>(atP p o).1)++aHi b (p+1)
theorem aKq (b p op:Nat) (h:op<256):aIZ b p op=match (atP p op).1 with|none=>aIZ b p (op+1)|some e=>e::aIZ b p (op+1):=by
 unfold aIZ;rw[show 256 - op=(255 - op)+1 by omega,show 256 - (op+1)=255 - op by omega,List.range'_succ,List.filterMap_cons]
 cases (atP p op).1<;>rfl
theorem aJp (b p:Nat):aIZ b p 256=aHi b (p+1):=by simp[aIZ]
theorem aII (b p:Nat) (h:p≤b):aHi b p=aHg p++aHi b (p+1):=by
 unfold aHi;rw[show b+1 - p=(b - p)+1 by omega,show b+1 - (p+1)=b - p by omega,List.range'_succ,Xz]
theorem aIu (p:Nat):aHg p=(List.range' 0 256).filterMap (fun o=>(atP p o).1):=by
 unfold aHg;rw[List.range_eq_range']
theorem aIH (b p:Nat) (h:p≤b):aHi b p=aIZ b p 0:=by
 rw[aII b p h,aIu];rfl
theorem aJo (b p:Nat) (h:b<p):aHi b p=[]:=by
 unfold aHi;rw[show b+1 - p=0 by omega]
 rfl
theorem aIk (l:List Op3):aHi (if l.any aOV then 6 else 2) (if l.any aOV then 3 else 0)=(aHe l).flatMap aHg:=by
 unfold aHi aHe;cases l.any aOV<;>rfl
def aKv (p op:Nat):Bool :=
 decide ((atP p op).2=1) == (atP p op).1.isSome && decide ((atP p op).2≤3) && (match (atP p op).1 with|some e=>decide (e.args.length≤3) && decide (e.extra.length≤3)|none=>true)
theorem aKx:∀ p:Fin 7,∀ op:Fin 256,aKv p.val op.val=true:=by decide +kernel
theorem aKy {p op:Nat} (hp:p<7) (ho:op<256):((atP p op).2=1↔(atP p op).1.isSome=true)∧((atP p op).1.getD ent0).args.length≤3∧((atP p op).1.getD ent0).extra.length≤3:=by
 have h:=aKx ⟨p,hp⟩ ⟨op,ho⟩;unfold aKv at h;simp only[Qe,Yq,Qf] at h;obtain⟨⟨h1,_⟩,h2⟩:=h;refine⟨?_,?_⟩
 · rw[←h1,decide_eq_true_iff]
 · cases he:(atP p op).1 with
   | none=>exact⟨by simp[ent0],by simp[ent0]⟩
   | some e =>
     rw[he] at h2;simpa using h2
theorem aKw {p op:Nat} (hp:p<7) (ho:op<256):atR p op=atP p op:=(Uj ⟨p,hp⟩ ⟨op,ho⟩).symm
theorem aIS (i:aY):(aHx i).2=if iR i=0 then (kQ (fun e=>aHn e (bV i)) (bV i) (aHi (if (bV i).2.any aOV then 6 else 2) (if (bV i).2.any aOV then 3 else 0)) 11).2 else iR i:=by
 rw[aIk];unfold aHx aIb;split<;>rfl
end
section
open Go.RowKit Go.Sort
open Go.Proofs.Tryz
theorem Gl (p:Nat) (hp:p<7) (w:World):Calls prog 90 #[p] w fun e w'=>∃ a c,e=.returned (.slice a (fA p) c)∧Below w w w':=by
 have key:∀ (x:Int) (n:Nat),(x=0∧n=0)∨(x=1∧n=1)∨(x=2∧n=1)∨(x=3∧n=1)∨(x=4∧n=1)∨(x=5∧n=2)∨(x=6∧n=2)→Calls prog 90 #[x] w fun e w'=>∃ a c,e=.returned (.slice a n c)∧Below w w w':=by
  intro x n h;rcases h with⟨rfl,rfl⟩|⟨rfl,rfl⟩|⟨rfl,rfl⟩|⟨rfl,rfl⟩|⟨rfl,rfl⟩|⟨rfl,rfl⟩|⟨rfl,rfl⟩;all_goals
   go_enter func90,ntmps90
   go_wp2_with fail
   go_ret;exact⟨_,_,rfl,bl⟩
 refine key _ _ ?_;unfold fA;rcases (by omega:p=0∨p=1∨p=2∨p=3∨p=4∨p=5∨p=6) with rfl|rfl|rfl|rfl|rfl|rfl|rfl<;>simp
theorem Ba (l:List UInt8) (i:Nat) (c:UInt8) (h:l[i]? = some c) (hs:i<(⟨l.toArray⟩:ByteArray).size):((⟨l.toArray⟩:ByteArray)[i]'hs)=c:=by
 obtain⟨h1,h2⟩:=Qd.1 h;rw[←h2];show l.toArray[i]'_=_
 simp
theorem Fx (E:Ent) (a:Option Addr) (n c:Nat) (w:World) (hp:E.page<7) (hl:E.extra.length≤1000):Calls prog 54 #[cP E (.slice a n c)] w fun e w'=>e=.returned (.int .i64 (kW E))∧Below w w w':=by
 obtain⟨page,op,mn,args,ex,al⟩:=E;dsimp only at hp hl;have HP:=Hh (fun W=>Gl page hp W);have hpn:fA page≤2:=by unfold fA;split;omega;split<;>omega
 unfold kW;dsimp only;generalize fA page=pn at *;have hsz:(⟨ex.toArray⟩:ByteArray).size=ex.length:=by show ex.toArray.size=_;simp
 show Calls prog 54 #[.agg #[page,.int .u8 op,mn,.slice a n c,ex,.bool al]] w _
 go_enter func54,ntmps54
 go_wp2_with fail
 generalize hW0:World.alloc w _=W0;have h0:W0.heap[w.heap.size]? = some (.cells #[page,.int .u8 op,mn,.slice a n c,ex,.bool al] 107 (0,0)):=by rw[←hW0];exact aF _ _
 have HB0:=Hh (show Below w w W0 by rw[←hW0];exact bl);have H0:=Hh h0;clear hW0 h0;obtain⟨⟨x0,x1,x2,x3,x4,x5⟩,_⟩:=aN H0.out;have hl0:=aA H0.out;go_wp2_with fail
 refine (HP.out _).mono ?_;rintro e w1 ⟨a1,c1,rfl,hb1⟩;have h1:=aB H0.out hb1 hl0;have HB1:=Hh (HB0.out.trans (hb1.mono HB0.out.size));clear x0 x1 x2 x3 x4 x5 hl0 hb1;obtain⟨⟨x0,x1,x2,x3,x4,x5⟩,_⟩:=aN h1;have hl1:=aA h1;clear h1;go_wp2_with fail
 go_loopw [3,4] (fun s i wr=>wr=w1∧∃ j:Nat,j≤ex.length∧i=.int .i64 j∧s=.int .i64 ((pn+1+j+(ex.take j).count 119:Nat):Int)) (fun _ i _=>ex.length - (intOf i).toNat)
 case atStart=>exact⟨rfl,0,Qi _,rfl,by simp⟩
 case round =>
  obtain⟨rfl,j,hj,rfl,rfl⟩:=hrel;have hcn:(ex.take j).count 119≤1000:=by have:=List.count_le_length (a:=(119:UInt8)) (l:=ex.take j);rw[Qt] at this;omega
  by_cases hlt:j<ex.length
  · obtain⟨x,hx⟩:∃ x,ex[j]? = some x:=⟨_,Qb hlt⟩;have hsp:j<(⟨ex.toArray⟩:ByteArray).size:=by rw[hsz];exact hlt
    have hix:=Ba ex j x hx hsp;have hcs:(ex.take (j+1)).count 119=(ex.take j).count 119+if x=119 then 1 else 0:=by
     rw[Qo,hx];simp[List.count_append,List.count_cons]
    have HX:=Hh hx;clear hx;generalize (ex.take j).count 119=q at *;have HCS:=Hh hcs;clear hcs;have hi1:(j:Int)<(ex.length:Int):=om
    have hxl:=x.toNat_lt;by_cases h9:x=119
    · have HH:=Hh h9;have hb:((x.toNat:Int) == 119)=true:=by subst h9;rfl
      clear h9;go_wp2_with fail
      go_roundw
      case rel =>
       refine⟨trivial,j+1,om,by go_num,?_⟩
       rw[HCS.out,if_pos HH.out];congr 1;omega
      case measure=>simp[intOf];omega
    · have HH:=Hh h9;have hb:((x.toNat:Int) == 119)=false:=by simp;intro e;exact h9 (Yv.1 (by rw[show (119:UInt8).toNat=119 from rfl];omega))
      clear h9;go_wp2_with fail
      go_roundw
      case rel =>
       refine⟨trivial,j+1,om,by go_num,?_⟩
       rw[HCS.out,if_neg HH.out];congr 1;omega
      case measure=>simp[intOf];omega
  · obtain rfl:j=ex.length:=om
    rw[Qy] at hcn;go_wp2_with fail
    go_ret;rw[Qy];exact⟨rfl,HB1.out⟩
theorem Id (l:List UInt8) (c:UInt8) (z:Int) (hz:(c.toNat:Int)=z) (w:World) (hl:l.length≤100000):Calls prog 132 #[l,.int .u8 z] w fun e w'=>e=.returned (.bool (decide (c∈l)))∧w=w':=by
 obtain⟨D,hD⟩:∃ D,decide (c∈l)=D:=⟨_,rfl⟩;rw[hD];have HD:=Hh hD;have HZ:=Hh hz;have hsz:(⟨l.toArray⟩:ByteArray).size=l.length:=by show l.toArray.size=_;simp
 clear hD hz;go_enter func132,ntmps132
 go_wp2_with fail
 go_loopw [5] (fun i wr=>wr=w∧∃ j:Nat,j≤l.length∧i=.int .i64 j∧Hid (c∉l.take j)) (fun i _=>l.length - (intOf i).toNat)
 case atStart=>exact⟨rfl,0,Qi _,rfl,Hh sm⟩
 case round =>
  obtain⟨rfl,j,hj,rfl,HN⟩:=hrel;by_cases hlt:j<l.length
  · obtain⟨x,hx⟩:∃ x,l[j]? = some x:=⟨_,Qb hlt⟩;have hsp:j<(⟨l.toArray⟩:ByteArray).size:=by rw[hsz];exact hlt
    have hix:=Ba l j x hx hsp;have HX:=Hh hx;clear hx;have hi1:(j:Int)<(l.length:Int):=om
    by_cases hc:x=c
    · have hb:((x.toNat:Int) == z)=true:=by rw[hc,HZ.out];simp
      have HC:=Hh hc;clear hc;go_wp2_with fail
      go_ret
      have:D=true:=by rw[←HD.out];simp only[Qf];rw[←HC.out];exact Qu HX.out
      exact⟨by rw[this];rfl,rfl⟩
    · have hb:((x.toNat:Int) == z)=false:=by
       simp only[Xd,ne_eq];intro e;rw[←HZ.out] at e;exact hc (Yv.1 om)
      have HC:=Hh hc;clear hc;go_wp2_with fail
      go_roundw
      case rel =>
       refine⟨trivial,j+1,om,by go_num,Hh ?_⟩
       rw[Qo,HX.out];simp only[Zo,Xs,Yd];rintro (h|h)
       · exact HN.out h
       · exact HC.out h.symm
      case measure=>simp[intOf];omega
  · obtain rfl:j=l.length:=om
    go_wp2_with fail
    go_ret;have hn:=HN.out;rw[Qy] at hn
    have:D=false:=by rw[←HD.out];simp[hn]
    exact⟨by rw[this];rfl,rfl⟩
theorem gV (c:UInt8) (z n:Int) (hz:(c.toNat:Int)=z) (w:World):Calls prog 92 #[.int .u8 z,n] w fun e w'=>e=.returned (.bool (bM c n))∧w=w':=by
 have hne:∀ d:UInt8,c≠d→(z == (d.toNat:Int))=false:=fun d h=>by
  simp only[Xd,ne_eq];intro e;rw[←hz] at e;exact h (Yv.1 om)
 have heq:∀ d:UInt8,c=d→z=(d.toNat:Int):=fun d h=>by rw[←hz,h]
 by_cases h0:c=100
 · have h1:=heq _ h0;have e:bM c n=(decide (-128≤n) && decide (n≤127)):=by unfold bM;rw[if_pos (.inl h0)]
   rw[e];rw[show (((100:UInt8).toNat:Nat):Int)=100 from rfl] at h1
   subst h1;clear hne heq hz e h0;by_cases ha:-128≤n<;>by_cases hb:n≤127
   all_goals
    go_enter func92,ntmps92
    go_wp2_with fail
    go_ret;exact⟨by simp[ha,hb],rfl⟩
 by_cases h9:c=101
 · have h1:=heq _ h9;have e:bM c n=(decide (-128≤n) && decide (n≤127)):=by unfold bM;rw[if_pos (.inr h9)]
   rw[e];rw[show (((101:UInt8).toNat:Nat):Int)=101 from rfl] at h1
   subst h1;clear hne heq hz e h0 h9;by_cases ha:-128≤n<;>by_cases hb:n≤127
   all_goals
    go_enter func92,ntmps92
    go_wp2_with fail
    go_ret;exact⟨by simp[ha,hb],rfl⟩
 by_cases h8:c=110
 · have h1:=heq _ h8;have e:bM c n=(decide (0≤n) && decide (n≤255)):=by unfold bM;rw[if_neg (by simp[h0,h9]),if_pos h8]
   rw[e];rw[show (((110:UInt8).toNat:Nat):Int)=110 from rfl] at h1
   subst h1;clear hne heq hz e h0 h9 h8;by_cases ha:0≤n<;>by_cases hb:n≤255
   all_goals
    go_enter func92,ntmps92
    go_wp2_with fail
    go_ret;exact⟨by simp[ha,hb],rfl⟩
 · have e:bM c n=(decide (0≤n) && decide (n≤65535)):=by unfold bM;rw[if_neg (by simp[h0,h9]),if_neg h8]
   rw[e];have h1:(z == 100)=false:=hne _ h0;have h2:(z == 101)=false:=hne _ h9;have h3:(z == 110)=false:=hne _ h8;clear hne heq hz e h0 h9 h8;by_cases ha:0≤n<;>by_cases hb:n≤65535
   all_goals
    go_enter func92,ntmps92
    go_wp2_with fail
    go_ret;exact⟨by simp[ha,hb],rfl⟩
structure EntAt (E:Ent) (v:Value) (w:World):Prop where
 row:Row w v E.args.length (opc E.args)
theorem EntAt.below {E:Ent} {v:Value} {w w':World} (h:EntAt E v w) (hb:Below w w w'):EntAt E v w':=⟨h.row.below hb⟩
def lE (p:Op3):Bool:=decide (p.1=6) || decide (p.1=7)
theorem Ci (E:Ent) (v:Value) (k:Nat) (w:World) (hE:EntAt E v w) (hk:k<E.args.length) (hl:E.args.length≤1000) (hx:E.extra.length≤1000) :
 Calls prog 91 #[cP E v,k] w fun e w'=>e=.returned (.int .u8 (aV E k).toNat)∧Below w w w':=by
 obtain⟨o,ho⟩:∃ o,E.args[k]? = some o:=⟨_,Qb hk⟩;have hlet:aV E k=if o.1=5∧100∈E.extra then 100 else if o.1=10∧101∈E.extra then 101 else if o.1≠6∧o.1≠7 then 0 else if (E.args.drop (k+1)).any lE then 0 else if 110∈E.extra then 110 else if 119∈E.extra then 119 else 0:=by
  unfold aV;rw[Xh,ho];rfl
 obtain⟨L,hL⟩:∃ L,aV E k=L:=⟨_,rfl⟩;rw[hL] at hlet ⊢;have hh:=fun (c:UInt8) z hz W=>Id E.extra c z hz W om;have H100:=Hh (hh 100 100 rfl);have H101:=Hh (hh 101 101 rfl);have H110:=Hh (hh 110 110 rfl);have H119:=Hh (hh 119 119 rfl);obtain⟨page,op,mn,args,ex,al⟩:=E;dsimp only at *;obtain⟨a,c,rfl,hcap,hop⟩:=hE.row.op;obtain⟨g,off,rfl,hg,hcs⟩:=hop (by rintro rfl;exact absurd hk (Qw _))
 obtain⟨k0,k1,k2⟩:=hcs k o ho;have HCS:=Hh hcs;have HLET:=Hh hlet;have HHK:=Hh hk;have hi0:(0:Int)≤(k:Int):=om
 have hi1:(k:Int)<(args.length:Int):=om
 clear hcs hlet hL hh hop hE ho;show Calls prog 91 #[.agg #[page,.int .u8 op,mn,.slice (some ⟨g,off,none⟩) args.length c,ex,.bool al],k] w _
 obtain⟨x,y,z⟩:=o;dsimp only at k0 k1 k2 HLET;have fin:∀ {L':UInt8} {q:Int} {w':World},(L'.toNat:Int)=q→L=L'→Below w w w'→Ending.returned (.int .u8 q)=.returned (.int .u8 (L.toNat:Int))∧Below w w w':=fun h1 h2 h3=>⟨by rw[h2,h1],h3⟩
 by_cases h5:x=5
 · subst h5;obtain⟨D,hD⟩:∃ D,decide ((100:UInt8)∈ex)=D:=⟨_,rfl⟩;have H1:=Hh (hD ▸ H100.out);have HD:=Hh hD;clear hD;go_enter func91,ntmps91
   go_wp2_with fail
   refine (H1.out _).mono ?_;rintro e w2 ⟨rfl,rfl⟩;cases D
   · go_wp2_with fail
     go_ret;have hn:¬ ((100:UInt8)∈ex):=by have:=HD.out;simpa using this
     exact fin (L':=0) rfl (by rw[HLET.out];simp[hn]) (bl)
   · go_wp2_with fail
     go_ret;have hn:((100:UInt8)∈ex):=by have:=HD.out;simpa using this
     exact fin (L':=100) rfl (by rw[HLET.out];simp[hn]) (bl)
 by_cases h10:x=10
 · subst h10;obtain⟨D,hD⟩:∃ D,decide ((101:UInt8)∈ex)=D:=⟨_,rfl⟩;have H1:=Hh (hD ▸ H101.out);have HD:=Hh hD;clear hD h5;go_enter func91,ntmps91
   go_wp2_with fail
   refine (H1.out _).mono ?_;rintro e w2 ⟨rfl,rfl⟩;cases D
   · go_wp2_with fail
     go_ret;have hn:¬ ((101:UInt8)∈ex):=by have:=HD.out;simpa using this
     exact fin (L':=0) rfl (by rw[HLET.out];simp[hn]) (bl)
   · go_wp2_with fail
     go_ret;have hn:((101:UInt8)∈ex):=by have:=HD.out;simpa using this
     exact fin (L':=101) rfl (by rw[HLET.out];simp[hn]) (bl)
 have e5:(x == 5)=false:=Xd.2 h5;have e10:(x == 10)=false:=Xd.2 h10;by_cases h67:x≠6∧x≠7
 · have e6:(x != 6)=true:=bne_iff_ne.2 h67.1;have e7:(x != 7)=true:=bne_iff_ne.2 h67.2;have hl0:L=0:=by rw[HLET.out,if_neg (fun h=>h5 h.1),if_neg (fun h=>h10 h.1),if_pos h67]
   have HL0:=Hh hl0;clear h5 h10 h67 hl0;go_enter func91,ntmps91
   go_wp2_with fail
   go_ret;exact fin (L':=0) rfl HL0.out (bl)
 have hl1:L=if (args.drop (k+1)).any lE then 0 else if 110∈ex then 110 else if 119∈ex then 119 else 0:=by rw[HLET.out,if_neg (fun h=>h5 h.1),if_neg (fun h=>h10 h.1),if_neg h67]
 have HL1:=Hh hl1;have h67:x=6∨x=7:=om
 clear hl1 h5 h10 e5 e10;obtain⟨D,hD⟩:∃ D,decide ((110:UInt8)∈ex)=D:=⟨_,rfl⟩;obtain⟨D',hD'⟩:∃ D,decide ((119:UInt8)∈ex)=D:=⟨_,rfl⟩;have H1:=Hh (hD ▸ H110.out);have H2:=Hh (hD' ▸ H119.out);have HD:=Hh hD;have HD':=Hh hD';clear hD hD';rcases h67 with rfl|rfl;all_goals
  go_enter func91,ntmps91
  go_wp2_with fail
  generalize hW0:World.alloc (World.alloc w _) _=W0;have h0:W0.heap[w.heap.size]? = some (.cells #[page,.int .u8 op,mn,.slice (some ⟨g,off,none⟩) args.length c,ex,.bool al] 107 (0,0)):=by rw[←hW0];exact aE (aF _ _)
  have hB0:Below w w W0:=by rw[←hW0];exact bl
  obtain⟨⟨x0,x1,x2,x3,x4,x5⟩,_⟩:=aN h0;have hl0:=aA h0;have HB0:=Hh hB0;clear hW0 h0 hB0 k0 k1 k2;go_loopw [6] (fun i wr=>wr=W0∧∃ j:Nat,k+1+j≤args.length∧i=.int .i64 ((k+1+j:Nat):Int)∧Hid (((args.drop (k+1)).take j).any lE=false)) (fun i _=>args.length - (intOf i).toNat)
  case atStart=>exact⟨rfl,0,by have:=HHK.out;omega,by go_num,Hh sm⟩
  case round =>
   obtain⟨rfl,j,hj,rfl,HN⟩:=hrel;by_cases hlt:k+1+j<args.length
   · obtain⟨⟨p0,p1,p2⟩,hp⟩:∃ p,args[k+1+j]? = some p:=⟨_,Qb hlt⟩;obtain⟨q0,q1,q2⟩:=HCS.out (k+1+j) _ hp;dsimp only at q0 q1 q2;have HP:=Hh hp;have m0:wr.cell? ⟨g,off+(k+1+j)*3,none⟩=some (.int .i64 p0):=(HB0.out.cell (p:=⟨g,off+(k+1+j)*3,none⟩) hg).trans q0;have hstep:((args.drop (k+1)).take (j+1)).any lE=(((args.drop (k+1)).take j).any lE || lE (p0,p1,p2)):=by
      rw[Qo,Yh,hp];simp
     have HST:=Hh hstep;have hal:args.length≤1000:=hl;obtain⟨J,hJ⟩:∃ J,k+1+j=J:=⟨_,rfl⟩;rw[hJ] at m0 hlt ⊢;have HJ:=Hh hJ;have hi1:(J:Int)<(args.length:Int):=om
     have hi2:(0:Int)≤(J:Int):=om
     clear hp q0 q1 q2 hstep hJ hj;by_cases hk6:p0=6∨p0=7
     · have hz:L=0:=by
        rw[HL1.out,if_pos];rw[←Zm (j+1) (args.drop (k+1)),Zu,HST.out]
        have:lE (p0,p1,p2)=true:=by unfold lE;rcases hk6 with h|h<;>simp[h]
        rw[this];simp
       have HZ:=Hh hz;clear hz;rcases hk6 with rfl|rfl;all_goals
        go_wp2_with fail
        go_ret;exact fin (L':=0) rfl HZ.out HB0.out
     · have e6:(p0 == 6)=false:=by simp;omega
       have e7:(p0 == 7)=false:=by simp;omega
       have hz:lE (p0,p1,p2)=false:=by unfold lE;simp;omega
       have HZ:=Hh hz;clear hz hk6;go_wp2_with fail
       go_roundw
       case rel=>exact⟨trivial,j+1,by have:=HJ.out;omega,by have:=HJ.out;go_num,Hh (by rw[HST.out,HN.out,HZ.out];rfl)⟩
       case measure=>simp[intOf];omega
   · have hje:k+1+j=args.length:=om
     rw[hje];have hnn:(args.drop (k+1)).any lE=false:=by
      have:=HN.out
      rwa [Xj (by rw[Xm];omega)] at this
     have HNN:=Hh (show L=if 110∈ex then 110 else if 119∈ex then 119 else 0 by rw[HL1.out,hnn];rfl);clear hje hnn hj;go_wp2_with fail
     refine (H1.out _).mono ?_;rintro e w2 ⟨rfl,rfl⟩;cases D
     · go_wp2_with fail
       refine (H2.out _).mono ?_;rintro e w2 ⟨rfl,rfl⟩;have h1:¬ ((110:UInt8)∈ex):=by have:=HD.out;simpa using this
       have HH1:=Hh h1;clear h1;cases D'
       · go_wp2_with fail
         go_ret;have h2:¬ ((119:UInt8)∈ex):=by have:=HD'.out;simpa using this
         exact fin (L':=0) rfl (by rw[HNN.out,if_neg HH1.out,if_neg h2]) HB0.out
       · go_wp2_with fail
         go_ret;have h2:((119:UInt8)∈ex):=by have:=HD'.out;simpa using this
         exact fin (L':=119) rfl (by rw[HNN.out,if_neg HH1.out,if_pos h2]) HB0.out
     · go_wp2_with fail
       go_ret;have h1:((110:UInt8)∈ex):=by have:=HD.out;simpa using this
       exact fin (L':=110) rfl (by rw[HNN.out,if_pos h1]) HB0.out
theorem aID {a b:List Op3} (_hl:a.length=b.length) (j:Nat) (x y:Op3) (hx:a[j]? = some x) (hy:b[j]? = some y) (h:kB (a.take j)=kB (b.take j)) (h1:x.1=y.1) (h2:x.2.1=y.2.1):kB (a.take (j+1))=kB (b.take (j+1)):=by
 unfold kB at *;rw[Qo,Qo,hx,hy,Ym,Ym,h];simp[h1,h2]
theorem aIh {a b:List Op3} (j:Nat) (x y:Op3) (hx:a[j]? = some x) (hy:b[j]? = some y) (h:x.1≠y.1∨x.2.1≠y.2.1):kB a≠kB b:=by
 intro e;have h1:=congrArg (fun l=>l[j]?) e;unfold kB at h1;simp only[Ya,hx,hy,Yx,Option.some.injEq,Prod.mk.injEq] at h1;rcases h with h|h
 · exact h h1.1
 · exact h h1.2
theorem aHs (E:Ent) (v:Value) (m:List UInt8) (u:Value) (l:List Op3) (w:World) (hE:EntAt E v w) (hr:Row w u l.length (opc l)) (hl:l.length≤1000) (hla:E.args.length≤1000) :
 Calls prog 139 #[cP E v,eU m u] w fun e w'=>e=.returned (.bool (cT E (m,l)))∧Below w w w':=by
 obtain⟨R,hR⟩:∃ R,cT E (m,l)=R:=⟨_,rfl⟩;rw[hR];unfold cT at hR;dsimp only at hR;have HR:=Hh hR;clear hR;obtain⟨page,op,mn,args,ex,al⟩:=E;dsimp only at *;obtain⟨a,c,rfl,hcap,hop⟩:=hE.row.op;obtain⟨a2,c2,rfl,hcap2,hop2⟩:=hr.op;have HO:=Hh hop;have HO2:=Hh hop2;obtain⟨X,hX⟩:∃ X:ByteArray,⟨mn.toArray⟩=X:=⟨_,rfl⟩;obtain⟨Y,hY⟩:∃ Y:ByteArray,⟨m.toArray⟩=Y:=⟨_,rfl⟩;have hXY:(mn=m)=(X=Y):=by
  rw[←hX,←hY];apply propext
  constructor
  · intro h;rw[h]
  · intro h;have:=congrArg (·.data.toList) h;simpa using this
 have he:=eqK X Y;unfold eU cP;dsimp only;rw[hX,hY];have HXY:=Hh hXY;clear hop hop2 hE hr hX hY hXY;by_cases hm:X=Y
 · rw[Qh hm] at he;by_cases hlen:args.length=l.length
   · have hlb:((args.length:Int) != (l.length:Int))=false:=by simp;omega
     have HLEN:=Hh hlen;have HM:=Hh hm;clear hlen hm;go_enter func139,ntmps139
     go_wp2_with fail
     obtain⟨W0,hW0⟩:∃ W,(w.alloc (.cells #[page,.int .u8 op,.string X,.slice a args.length c,ex,.bool al] 107)).alloc (.cells #[.string Y,.slice a2 l.length c2] 53)=W:=⟨_,rfl⟩;rw[hW0];have hb0:Below w w W0:=by rw[←hW0];exact bl
     have hx1:W0.heap[w.heap.size]? = some (.cells #[page,.int .u8 op,.string X,.slice a args.length c,ex,.bool al] 107 (0,0)):=by rw[←hW0];exact aE (aF _ _)
     have hx2:W0.heap[w.heap.size+1]? = some (.cells #[.string Y,.slice a2 l.length c2] 53 (0,0)):=by
      rw[←hW0]
      have:=aF (w.alloc (.cells #[page,.int .u8 op,.string X,.slice a args.length c,ex,.bool al] 107)) (.cells #[.string Y,.slice a2 l.length c2] 53)
      rwa [Qa] at this
     have HBX:=Hh (fun W (hb:Below W0 W0 W)=>And.intro (aB hx1 hb (aA hx1)) (And.intro (aB hx2 hb (aA hx2)) (hb0.trans (hb.mono hb0.size))));clear hb0 hx1 hx2 hW0;go_loopw [5] (fun i wr=>∃ j:Nat,j≤l.length∧i=.int .i64 j∧Hid (Below W0 W0 wr)∧Hid (kB (args.take j)=kB (l.take j))) (fun i _=>l.length - (intOf i).toNat)
     case atStart=>exact⟨0,Qi _,rfl,Hh br,Hh (by simp[kB])⟩
     case round =>
      obtain⟨j,hj,rfl,HB,HS⟩:=hrel;obtain⟨hx1,hx2,hbw⟩:=HBX.out wr HB.out;obtain⟨_,_,_,p3,_,_⟩:=(aN hx1).1;obtain⟨_,q1,_,_⟩:=aL hx2;have hl1:=aA hx1;have hl2:=aA hx2;have HBW:=Hh hbw;clear hx1 hx2;by_cases hlt:j<l.length
      · obtain⟨y,hy⟩:∃ y,l[j]? = some y:=⟨_,Qb hlt⟩;obtain⟨x,hx⟩:∃ x,args[j]? = some x:=⟨_,Qb (by have:=HLEN.out;omega)⟩;obtain⟨g,o,rfl,hg,hcs⟩:=HO.out (by rintro rfl;simp at hx);obtain⟨g2,o2,rfl,hg2,hcs2⟩:=HO2.out (by rintro rfl;simp at hy);obtain⟨k0,k1,_⟩:=hcs j x hx;obtain⟨n0,n1,_⟩:=hcs2 j y hy;have m0:=(hbw.cell (p:=⟨g,_,none⟩) hg).trans k0;have m1:=(hbw.cell (p:=⟨g,_,none⟩) hg).trans k1;have r0:=(hbw.cell (p:=⟨g2,_,none⟩) hg2).trans n0;have r1:=(hbw.cell (p:=⟨g2,_,none⟩) hg2).trans n1;have HX:=Hh hx;have HY:=Hh hy;have hgw:=Qj hg hbw.size;have hgw2:=Qj hg2 hbw.size;have hi0:(0:Int)≤(j:Int):=om
        have hi1:(j:Int)<(l.length:Int):=om
        have hi2:(j:Int)<(args.length:Int):=by have:=HLEN.out;omega
        obtain⟨x0,x1,x2⟩:=x;obtain⟨y0,y1,y2⟩:=y;dsimp only at m0 m1 r0 r1;clear hcs hcs2 k0 k1 n0 n1 hx hy hbw;by_cases h0:x0=y0
        · have hb0:(x0 != y0)=false:=by simp[h0]
          by_cases h1:x1=y1
          · have hb1:(x1 != y1)=false:=by simp[h1]
            have HN:=Hh (aID HLEN.out j _ _ HX.out HY.out HS.out h0 h1);clear h0 h1;go_wp2_with fail
            go_quiet (fail)
            go_wp2_with fail
            go_roundw
            case rel=>exact⟨j+1,om,by go_num,Hh (aHb HB.out _),HN⟩
            case measure=>simp[intOf];omega
          · have hb1:(x1 != y1)=true:=by simp[h1]
            have HN:=Hh (aIh j _ _ HX.out HY.out (.inr h1));have hr:R=false:=by rw[←HR.out];simp[HN.out]
            subst hr;clear h0 h1;go_wp2_with fail
            go_quiet (fail)
            go_wp2_with fail
            go_ret;exact⟨rfl,aHb HBW.out _⟩
        · have hb0:(x0 != y0)=true:=by simp[h0]
          have HN:=Hh (aIh j _ _ HX.out HY.out (.inl h0));have hr:R=false:=by rw[←HR.out];simp[HN.out]
          subst hr;clear h0;go_wp2_with fail
          go_quiet (fail)
          go_wp2_with fail
          go_ret;exact⟨rfl,aHb HBW.out _⟩
      · obtain rfl:j=l.length:=om
        have hs:=HS.out;rw[←HLEN.out,Qy,HLEN.out,Qy] at hs;have hr:R=true:=by rw[←HR.out,hs,Qh (HXY.out.symm ▸ HM.out)];simp
        subst hr;clear hs;go_wp2_with fail
        go_ret;exact⟨rfl,HBW.out⟩
   · have hlb:((args.length:Int) != (l.length:Int))=true:=by simp;omega
     have hr:R=false:=by
      rw[←HR.out]
      have:kB args≠kB l:=fun e=>hlen (by have h1:=congrArg List.length e;simpa[kB] using h1)
      simp[this]
     subst hr;clear hlen hm;go_enter func139,ntmps139
     go_wp2_with fail
     go_ret;exact⟨rfl,bl⟩
 · rw[Qg hm] at he;have hr:R=false:=by
    rw[←HR.out,Qg (show ¬ mn=m from fun e=>hm (HXY.out ▸ e))]
    rfl
   subst hr;clear hm;go_enter func139,ntmps139
   go_wp2_with fail
   go_ret;exact⟨rfl,bl⟩
theorem aHD (m:List UInt8) (v:Value) (l:List Op3) (w:World) (hr:Row w v l.length (opc l)) (hl:l.length≤1000) :
 Calls prog 137 #[eU m v] w fun e w'=>e=.returned (.int .i64 (if l.any aOV then 3 else 0))∧Below w w w':=by
 obtain⟨R,hR⟩:∃ R,l.any aOV=R:=⟨_,rfl⟩;rw[hR];have HR:=Hh hR;clear hR;obtain⟨a,c,rfl,hcap,hop⟩:=hr.op;have HO:=Hh hop;unfold eU;clear hop hr;go_enter func137,ntmps137
 go_wp2_with fail
 obtain⟨W0,hW0⟩:∃ W,w.alloc (.cells #[m,.slice a l.length c] 53)=W:=⟨_,rfl⟩;rw[hW0];have hb0:Below w w W0:=by rw[←hW0];exact bl
 have hx2:W0.heap[w.heap.size]? = some (.cells #[m,.slice a l.length c] 53 (0,0)):=by rw[←hW0];exact aF _ _
 have HBX:=Hh (fun W (hb:Below W0 W0 W)=>And.intro (aB hx2 hb (aA hx2)) (hb0.trans (hb.mono hb0.size)));clear hb0 hx2 hW0;go_loopw [3] (fun i wr=>∃ j:Nat,j≤l.length∧i=.int .i64 j∧Hid (Below W0 W0 wr)∧Hid ((l.take j).any aOV=false)) (fun i _=>l.length - (intOf i).toNat)
 case atStart=>exact⟨0,Qi _,rfl,Hh br,Hh sm⟩
 case round =>
  obtain⟨j,hj,rfl,HB,HS⟩:=hrel;obtain⟨hx2,hbw⟩:=HBX.out wr HB.out;obtain⟨_,q1,_,_⟩:=aL hx2;have hl2:=aA hx2;have HBW:=Hh hbw;clear hx2;by_cases hlt:j<l.length
  · obtain⟨y,hy⟩:∃ y,l[j]? = some y:=⟨_,Qb hlt⟩;obtain⟨g,o,rfl,hg,hcs⟩:=HO.out (by rintro rfl;simp at hy);obtain⟨n0,n1,n2⟩:=hcs j y hy;have r0:=(hbw.cell (p:=⟨g,_,none⟩) hg).trans n0;have r1:=(hbw.cell (p:=⟨g,_,none⟩) hg).trans n1;have r2:=(hbw.cell (p:=⟨g,_,none⟩) hg).trans n2;have HY:=Hh hy;have hgw:=Qj hg hbw.size;have hi0:(0:Int)≤(j:Int):=om
    have hi1:(j:Int)<(l.length:Int):=om
    have HT:=Hh (show (l.take (j+1)).any aOV=aOV y by rw[Qo,hy,Zu,HS.out];simp)
    have HM:=Hh (fun (h:aOV y=true)=>(Xx.2 ⟨y,Qu hy,h⟩:l.any aOV=true));obtain⟨y0,y1,y2⟩:=y;dsimp only at r0 r1 r2;clear hcs n0 n1 n2 hy hbw;cases hix:aOV (y0,y1,y2)
    · have HN:=Hh (HT.out.trans hix);unfold aOV at hix;simp only[Bool.or_eq_false_iff,Bool.and_eq_false_iff,decide_eq_false_iff_not] at hix;obtain⟨e2,e3⟩:=hix;have b2:(y0 == 2)=false:=Xd.2 e2;by_cases h3:3≤y0
      · by_cases h5:y0≤5
        · have h6:¬ y1=5∧¬ y1=6:=by
           rcases e3 with (h|h)|h
           · exact absurd h3 h
           · exact absurd h5 h
           · exact h
          have c5:(y1 == 5)=false:=Xd.2 h6.1;have c6:(y1 == 6)=false:=Xd.2 h6.2;have d3:decide ((3:Int)≤y0)=true:=Qh h3;have d5:decide (y0≤(5:Int))=true:=Qh h5;clear e2 e3 h3 h5 h6;go_wp2_with fail
          go_roundw
          case rel=>exact⟨j+1,om,by go_num,Hh (HB.out.alloc HB.out.size _),HN⟩
          case measure=>simp[intOf];omega
        · have d3:decide ((3:Int)≤y0)=true:=Qh h3;have d5:decide (y0≤(5:Int))=false:=Qg h5;clear e2 e3 h3 h5;go_wp2_with fail
          go_roundw
          case rel=>exact⟨j+1,om,by go_num,Hh (HB.out.alloc HB.out.size _),HN⟩
          case measure=>simp[intOf];omega
      · have d3:decide ((3:Int)≤y0)=false:=Qg h3;clear e2 e3 h3;go_wp2_with fail
        go_roundw
        case rel=>exact⟨j+1,om,by go_num,Hh (HB.out.alloc HB.out.size _),HN⟩
        case measure=>simp[intOf];omega
    · have hr:R=true:=by rw[←HR.out];exact HM.out hix
      subst hr;unfold aOV at hix;simp only[Zs,Qe,Qf] at hix;by_cases e2:y0=2
      · subst e2;clear hix;go_wp2_with fail
        go_ret;exact⟨rfl,HBW.out.alloc HBW.out.size _⟩
      · obtain⟨⟨h3,h5⟩,h6⟩:=hix.resolve_left e2;have b2:(y0 == 2)=false:=Xd.2 e2;have d3:decide ((3:Int)≤y0)=true:=Qh h3;have d5:decide (y0≤(5:Int))=true:=Qh h5;clear hix e2 h3 h5;rcases h6 with rfl|rfl;all_goals
         go_wp2_with fail
         go_ret;exact⟨rfl,HBW.out.alloc HBW.out.size _⟩
  · obtain rfl:j=l.length:=om
    have hs:=HS.out;rw[Qy] at hs;obtain rfl:R=false:=by rw[←HR.out,hs]
    clear hs;go_wp2_with fail
    go_ret;exact⟨rfl,HBW.out⟩
theorem aIQ (m:List UInt8) (v:Value) (l:List Op3) (w:World) (hr:Row w v l.length (opc l)) (hl:l.length≤1000) :
 Calls prog 138 #[eU m v] w fun e w'=>e=.returned (.int .i64 (if l.any aOV then 6 else 2))∧Below w w w':=by
 have hf:∀ W,Below w w W→Calls prog 137 #[eU m v] W fun e w'=>e=.returned (.int .i64 (if l.any aOV then 3 else 0))∧Below w w w':=fun W hW=>by
  refine (aHD m v l W (hr.below hW) hl).mono ?_;rintro e w1 ⟨he,hb⟩;exact⟨he,hW.trans (hb.mono hW.size)⟩
 obtain⟨R,hR⟩:∃ R,l.any aOV=R:=⟨_,rfl⟩;rw[hR] at hf ⊢;have HF:=Hh hf;clear hf hR hr;unfold eU at HF ⊢;go_enter func138,ntmps138
 cases R
 all_goals
  go_wp2_with fail
  refine (HF.out _ (bl)).mono ?_;rintro e w1 ⟨rfl,hb1⟩;go_wp2_with fail
  go_ret;exact⟨rfl,hb1⟩
theorem Cj (e:Ent) (k:Nat):aV e k=0∨aV e k=100∨aV e k=101∨aV e k=110∨aV e k=119:=by
 unfold aV;dsimp only
 repeat' split
 all_goals simp
theorem Se (l m:List Op3):opc (l++m)=opc l++opc m:=by simp[opc]
theorem Ir {e:Ent} {d n:Int} {j:Nat} {o:Op3} (h:e.args[j]? = some o):(eO e d n)[j]? = some (o.1,o.2.1,qS e d n j):=by
 simp only[eO,Ya,List.getElem?_zipIdx,h,Yx,Xb]
theorem aAR (d:Int):(d == 0)=decide (d=0):=by by_cases h:d=0<;>simp[h]
structure F10 (w:World) (E:Array Value) (mn:ByteArray) (vo:Value) (n0:Nat) (xs:List Value) (bx:Nat) (x y N:Int) (W:World):Prop where
 e:W.heap[w.heap.size]? = some (.cells E 107 (0,0))
 r:W.heap[w.heap.size+1]? = some (.cells #[.string ⟨#[]⟩,.slice none 0 0] 53 (0,0))
 o:W.heap[w.heap.size+1+1]? = some (.cells #[.string mn,vo] 53 (0,0))
 b:W.heap[bx]? = some (.cells #[.int .i64 x,.int .i64 y,.int .i64 N] 144 (0,0))
 row:ORow W (w.heap.size+1+1+1) vo n0 xs
 below:Below w.heap.size w W
 lo:w.heap.size+1+1+1≤bx
 lt:∀ q,vo.ownBlock=some q→q<bx
theorem F10.set {w W:World} {E:Array Value} {mn:ByteArray} {vo:Value} {n0:Nat} {xs:List Value} {bx:Nat} {x y N:Int} (h:F10 w E mn vo n0 xs bx x y N W) (M:Int):F10 w E mn vo n0 xs bx x y M (W.setCell ⟨bx,2,none⟩ M):=by
 have:=h.lo
 exact⟨aD h.e om,aD h.r om,aD h.o om,aG h.b,h.row.kbo (Kb.setCell (Kb.refl _ _) 2 _) (fun e=>by have:=h.lt _ e;omega),h.below.setCell (p:=⟨bx,2,none⟩) (by show w.heap.size≤bx;omega) _,h.lo,h.lt⟩
theorem Db (E:Ent) (v:Value) (d n:Int) (w:World) (hE:EntAt E v w) (hl:E.args.length≤1000) (hx:E.extra.length≤1000) :
 Calls prog 56 #[cP E v,d,n] w (oW (lU E d n) w):=by
 obtain⟨i0,hi,hzz0,hzz1,hzz2⟩:=info_parts Tryz.infoOperand;have HLT0:=Hh (fun j W (hb:Below w w W) hj=>Ci E v j W (hE.below hb) hj hl hx);have HRW:=Hh (fun W (hb:Below w w W)=>(hE.row.below hb).op);obtain⟨page,op,mn,args,ex,al⟩:=E;dsimp only at hl hx;obtain⟨a,c,rfl,_,_⟩:=hE.row;have HLN:=Hh (show ∀ j W,Below w w W→j<args.length→∀ z:Int,((aV ⟨page,op,mn,args,ex,al⟩ j).toNat:Int)=z→Calls prog 91 #[.agg #[page,.int .u8 op,mn,.slice a args.length c,ex,.bool al],.int .i64 j] W fun e w'=>e=.returned (.int .u8 z)∧Below W W w' from fun j W hb hj z hz=>hz ▸ HLT0.out j W hb hj)
 unfold oW;clear HLT0 hE;show Calls prog 56 #[.agg #[page,.int .u8 op,mn,.slice a args.length c,ex,.bool al],d,n] w _
 go_enter func56,ntmps56
 go_wp2_with fail
 generalize hW0:World.alloc (World.alloc (World.alloc w _) _) _=W0;have h00:W0.heap[w.heap.size]? = some (.cells #[page,.int .u8 op,mn,.slice a args.length c,ex,.bool al] 107 (0,0)):=by rw[←hW0];exact aE (aE (aF _ _))
 have h01:W0.heap[w.heap.size+1]? = some (.cells #[(),zz] 53 (0,0)):=by
  rw[←hW0];refine aE ?_;have h1:=aF (w.alloc (.cells #[page,.int .u8 op,mn,.slice a args.length c,ex,.bool al] 107)) (.cells #[(),zz] 53)
  rwa [Qa] at h1
 have h02:W0.heap[w.heap.size+1+1]? = some (.cells #[mn,zz] 53 (0,0)):=by
  rw[←hW0];have h1:=aF ((w.alloc (.cells #[page,.int .u8 op,mn,.slice a args.length c,ex,.bool al] 107)).alloc (.cells #[(),zz] 53)) (.cells #[mn,zz] 53);rw[Qa,Qa] at h1;exact h1
 have hB0:Below w w W0:=by rw[←hW0];exact bl
 have H00:=Hh h00;have H01:=Hh h01;have H02:=Hh h02;have HB0:=Hh hB0;clear hW0 h00 h01 h02 hB0;go_loopw [9,10,11] (fun ud un i wr=>∃ (j:Nat) (vo:Value),j≤args.length∧i=.int .i64 j∧ud=.bool (decide (d=0) || (List.range j).any (nO ⟨page,op,mn,args,ex,al⟩))∧un=.bool (decide (n=0) || (List.range j).any (nN ⟨page,op,mn,args,ex,al⟩))∧Hid ((List.range j).all (oK ⟨page,op,mn,args,ex,al⟩ d n)=true)∧Hid (ORow wr (w.heap.size+1+1+1) vo j (opc ((eO ⟨page,op,mn,args,ex,al⟩ d n).take j)))∧Hid (wr.heap[w.heap.size]? = some (.cells #[page,.int .u8 op,mn,.slice a args.length c,ex,.bool al] 107 (0,0)))∧Hid (wr.heap[w.heap.size+1]? = some (.cells #[(),zz] 53 (0,0)))∧Hid (wr.heap[w.heap.size+1+1]? = some (.cells #[mn,vo] 53 (0,0)))∧Hid (Below w w wr)) (fun _ _ i _=>args.length - (intOf i).toNat)
 case atStart=>exact⟨0,.slice none 0 0,Qi _,rfl,by simp[aAR],by simp[aAR],Hh sm,Hh (ORow.nil _ _),H00,H01,H02,HB0⟩
 case round =>
  obtain⟨j,vo,hj,rfl,rfl,rfl,HAL,HRO,HE0,HX0,HO0,HB⟩:=hrel;obtain⟨ud,hud⟩:∃ ud,(decide (d=0) || (List.range j).any (nO ⟨page,op,mn,args,ex,al⟩))=ud:=⟨_,rfl⟩;obtain⟨un,hun⟩:∃ un,(decide (n=0) || (List.range j).any (nN ⟨page,op,mn,args,ex,al⟩))=un:=⟨_,rfl⟩;rw[hud,hun];have HUD:=Hh hud;have HUN:=Hh hun;clear hud hun;obtain⟨av,cv,rfl⟩:=HRO.out.slice;obtain⟨⟨x0,x1,x2,x3,x4,x5⟩,_⟩:=aN HE0.out;obtain⟨o0,o1,_,_⟩:=aL HO0.out;have hl0:=aA HE0.out;have hl1:=aA HX0.out;have hl2:=aA HO0.out;by_cases hlt:j<args.length
  · obtain⟨⟨x,y,z⟩,ho⟩:∃ x,args[j]? = some x:=⟨_,Qb hlt⟩;obtain⟨_,_,hv,hcap,hop⟩:=HRW.out wr HB.out;cases hv
    obtain⟨g,off,rfl,hg,hcs⟩:=hop (by rintro rfl;exact absurd hlt (Qw _))
    obtain⟨k0,k1,k2⟩:=hcs j _ ho;dsimp only at k0 k1 k2;have hi0:(0:Int)≤(j:Int):=om
    have hi1:(j:Int)<(args.length:Int):=om
    have hfl:(eO ⟨page,op,mn,args,ex,al⟩ d n)[j]?.toList=[(x,y,qS ⟨page,op,mn,args,ex,al⟩ d n j)]:=by rw[Ir (o:=(x,y,z)) ho];rfl
    have HFL:=Hh hfl;have hnum:cX args j=z:=by unfold cX;rw[Xh,ho];rfl
    have hnw:qS ⟨page,op,mn,args,ex,al⟩ d n j=if aV ⟨page,op,mn,args,ex,al⟩ j=100 then d else if aV ⟨page,op,mn,args,ex,al⟩ j=101∨aV ⟨page,op,mn,args,ex,al⟩ j=110∨aV ⟨page,op,mn,args,ex,al⟩ j=119 then n else z:=by rw[←hnum];rfl
    have hfit:oK ⟨page,op,mn,args,ex,al⟩ d n j=(decide (aV ⟨page,op,mn,args,ex,al⟩ j=0) || bM (aV ⟨page,op,mn,args,ex,al⟩ j) (qS ⟨page,op,mn,args,ex,al⟩ d n j)):=rfl;have husd:((List.range (j+1)).any (nO ⟨page,op,mn,args,ex,al⟩))=((List.range j).any (nO ⟨page,op,mn,args,ex,al⟩) || decide (aV ⟨page,op,mn,args,ex,al⟩ j=100)):=by rw[Yw,Zu];simp[nO]
    have husn:((List.range (j+1)).any (nN ⟨page,op,mn,args,ex,al⟩))=((List.range j).any (nN ⟨page,op,mn,args,ex,al⟩) || (decide (aV ⟨page,op,mn,args,ex,al⟩ j=101) || decide (aV ⟨page,op,mn,args,ex,al⟩ j=110) || decide (aV ⟨page,op,mn,args,ex,al⟩ j=119))):=by rw[Yw,Zu];simp[nN]
    have HLT:=Hh hlt;obtain⟨L,hL⟩:∃ L,aV ⟨page,op,mn,args,ex,al⟩ j=L:=⟨_,rfl⟩;obtain⟨lz,hlz⟩:∃ lz:Int,(L.toNat:Int)=lz:=⟨_,rfl⟩;have hln:=fun W hb=>HLN.out j W hb hlt lz (by rw[hL,hlz]);have hcs5:=Cj ⟨page,op,mn,args,ex,al⟩ j;rw[hL] at hcs5 hnw hfit husd husn;obtain⟨F,hF⟩:∃ F,oK ⟨page,op,mn,args,ex,al⟩ d n j=F:=⟨_,rfl⟩;rw[hF] at hfit;obtain⟨N2,hN2⟩:∃ N2,qS ⟨page,op,mn,args,ex,al⟩ d n j=N2:=⟨_,rfl⟩;rw[hN2] at hnw hfit hfl;have HF:=Hh hF;have HFL:=Hh hfl;have HUSD:=Hh husd;have HUSN:=Hh husn;have HWN:=Hh (fun W=>gV L lz N2 hlz W);have HQ:Hid ((L=0∧lz=0∧N2=z∧F=true)∨(L=100∧lz=100∧N2=d∧F=bM L N2)∨((L=101∧lz=101∨L=110∧lz=110∨L=119∧lz=119)∧N2=n∧F=bM L N2)):=Hh (by
     rcases hcs5 with rfl|rfl|rfl|rfl|rfl
     · exact .inl ⟨rfl,by rw[←hlz];rfl,by rw[hnw];rfl,by rw[hfit];rfl⟩
     · exact .inr (.inl ⟨rfl,by rw[←hlz];rfl,by rw[hnw];rfl,by rw[hfit];rfl⟩)
     · exact .inr (.inr ⟨.inl ⟨rfl,by rw[←hlz];rfl⟩,by rw[hnw];rfl,by rw[hfit];rfl⟩)
     · exact .inr (.inr ⟨.inr (.inl ⟨rfl,by rw[←hlz];rfl⟩),by rw[hnw];rfl,by rw[hfit];rfl⟩)
     · exact .inr (.inr ⟨.inr (.inr ⟨rfl,by rw[←hlz];rfl⟩),by rw[hnw];rfl,by rw[hfit];rfl⟩))
    have HLN2:=Hh hln;clear hln hnw hfit hL hlz hF hN2 hcs5 ho hcs hop hnum hfl husd husn;go_wp2_with fail
    have hal:Below wr wr (wr.alloc (.cells #[.int .i64 x,y,.int .i64 z] 144)):=br.alloc lr _;refine (HLN2.out _ (HB.out.trans (hal.mono HB.out.size))).mono ?_;rintro e w2 ⟨rfl,hb2⟩;have hbw:=hal.trans (hb2.mono hal.size);obtain⟨bx,hbxe⟩:∃ bx,wr.heap.size=bx:=⟨_,rfl⟩;have hf:F10 w #[page,.int .u8 op,mn,.slice (some ⟨g,off,none⟩) args.length c,ex,.bool al] ⟨mn.toArray⟩ (.slice av j cv) j (opc ((eO ⟨page,op,mn,args,ex,al⟩ d n).take j)) wr.heap.size x y z w2:=⟨aB HE0.out hbw hl0,aB HX0.out hbw hl1,aB HO0.out hbw hl2,aB (aF wr _) hb2 sm,HRO.out.below hbw,HB.out.trans (hbw.mono HB.out.size),om,fun q hq=>(HRO.out.own.lt q hq).2⟩
    rw[hbxe] at hf ⊢;have HF2:=Hh hf;clear hbxe hbw hb2 hal hf HRO HE0 HX0 HO0 HB k0 k1 k2 x0 x1 x2 x3 x4 x5 o0 o1 hg hlt hl0 hl1 hl2;go_upto_if 40 with fail
    go_cut [9] (fun t wx=>t=.bool (ud || decide (L=100))∧Hid (F10 w #[page,.int .u8 op,mn,.slice (some ⟨g,off,none⟩) args.length c,ex,.bool al] ⟨mn.toArray⟩ (.slice av j cv) j (opc ((eO ⟨page,op,mn,args,ex,al⟩ d n).take j)) bx x y (if L=100 then d else z) wx))
    case first =>
     obtain⟨b0,b1,b2,fb0,fb1,fb2⟩:=bE HF2.out.b;have hlb:=aA HF2.out.b;by_cases hL:L=100
     · have hq:(lz == 100)=true:=by
        rcases HQ.out with⟨h,_⟩|⟨_,h,_⟩|⟨⟨h,_⟩|⟨h,_⟩|⟨h,_⟩,_⟩
        · rw[hL] at h;cases h
        · rw[h];rfl
        all_goals rw[hL] at h;cases h
       have HS:=Hh (show F10 w #[page,.int .u8 op,mn,.slice (some ⟨g,off,none⟩) args.length c,ex,.bool al] ⟨mn.toArray⟩ (.slice av j cv) j (opc ((eO ⟨page,op,mn,args,ex,al⟩ d n).take j)) bx x y (if L=100 then d else z) (w2.setCell ⟨bx,2,none⟩ d) by rw[if_pos hL];exact HF2.out.set d)
       have hd:(ud || decide (L=100))=true:=by simp[hL]
       have HD:=Hh hd;clear hL hd;go_wp2_with fail
       go_meet
       case rel=>exact⟨by rw[HD.out],HS⟩
     · have hq:(lz == 100)=false:=by
        rcases HQ.out with⟨_,h,_⟩|⟨h,_⟩|⟨⟨_,h⟩|⟨_,h⟩|⟨_,h⟩,_⟩
        · rw[h];rfl
        · exact absurd h hL
        all_goals rw[h];rfl
       have HS:=Hh (show F10 w #[page,.int .u8 op,mn,.slice (some ⟨g,off,none⟩) args.length c,ex,.bool al] ⟨mn.toArray⟩ (.slice av j cv) j (opc ((eO ⟨page,op,mn,args,ex,al⟩ d n).take j)) bx x y (if L=100 then d else z) w2 by rw[if_neg hL];exact HF2.out)
       have hd:(ud || decide (L=100))=ud:=by simp[hL]
       have HD:=Hh hd;clear hL hd;go_wp2_with fail
       go_meet
       case rel=>exact⟨by rw[HD.out],HS⟩
    case rest =>
    obtain⟨rfl,HF3⟩:=hcut;clear HF2;obtain⟨UD,hUD⟩:∃ b,(ud || decide (L=100))=b:=⟨_,rfl⟩;obtain⟨UN,hUN⟩:∃ b,(un || (decide (L=101) || decide (L=110) || decide (L=119)))=b:=⟨_,rfl⟩;have HUD2:=Hh hUD;have HUN2:=Hh hUN;rw[hUD];clear hUD hUN;go_upto_region 12 with fail
    go_cut [52] (fun t wx=>t=.bool (decide (L=101) || decide (L=110) || decide (L=119))∧wc=wx)
    case first =>
     rcases HQ.out with⟨rfl,rfl,_⟩|⟨rfl,rfl,_⟩|⟨⟨rfl,rfl⟩|⟨rfl,rfl⟩|⟨rfl,rfl⟩,_⟩;all_goals
      go_wp2_with fail
      go_meet
      case rel=>exact⟨rfl,rfl⟩
    case rest =>
    obtain⟨rfl,rfl⟩:=hcut;obtain⟨BN,hBN⟩:∃ b,(decide (L=101) || decide (L=110) || decide (L=119))=b:=⟨_,rfl⟩;rw[hBN] at HUN2 ⊢;have HBN:=Hh hBN;clear hBN;go_upto_if 52 with fail
    go_cut [10] (fun t wx=>t=.bool UN∧Hid (F10 w #[page,.int .u8 op,mn,.slice (some ⟨g,off,none⟩) args.length c,ex,.bool al] ⟨mn.toArray⟩ (.slice av j cv) j (opc ((eO ⟨page,op,mn,args,ex,al⟩ d n).take j)) bx x y N2 wx))
    case first =>
     obtain⟨b0,b1,b2,fb0,fb1,fb2⟩:=bE HF3.out.b;have hlb:=aA HF3.out.b;have hf3:=HF3.out;cases BN
     · have hN:(if L=100 then d else z)=N2:=by
        rcases HQ.out with⟨rfl,_,rfl,_⟩|⟨rfl,_,rfl,_⟩|⟨⟨rfl,_⟩|⟨rfl,_⟩|⟨rfl,_⟩,_⟩
        · rfl
        · rfl
        all_goals exact absurd HBN.out dc
       rw[hN] at hf3;have HS:=Hh hf3;clear hf3 hN;go_wp2_with fail
       go_meet
       case rel=>exact⟨by rw[←HUN2.out];simp,HS⟩
     · obtain rfl:N2=n:=by
        rcases HQ.out with⟨rfl,_⟩|⟨rfl,_⟩|⟨_,h,_⟩
        · exact absurd HBN.out dc
        · exact absurd HBN.out dc
        · exact h
       have HS:=Hh (hf3.set N2);clear hf3;go_wp2_with fail
       go_meet
       case rel=>exact⟨by rw[←HUN2.out];simp,HS⟩
    case rest =>
    obtain⟨rfl,HF4⟩:=hcut;clear HF3
    rename World=>w4
    go_upto_region 15 with fail
    go_cut [63] (fun t wx=>t=.bool (!F)∧w4=wx)
    case first =>
     obtain⟨b0,b1,b2,fb0,fb1,fb2⟩:=bE HF4.out.b;have hlb:=aA HF4.out.b;by_cases hL:L=0
     · obtain⟨hz,rfl⟩:lz=0∧F=true:=by
        rcases HQ.out with⟨_,h,_,h2⟩|⟨rfl,_⟩|⟨⟨rfl,_⟩|⟨rfl,_⟩|⟨rfl,_⟩,_⟩
        · exact⟨h,h2⟩
        all_goals exact absurd hL dc
       have hq:(lz != 0)=false:=by rw[hz];rfl
       clear hz hL;go_wp2_with fail
       go_meet
       case rel=>exact⟨rfl,rfl⟩
     · obtain⟨hq,hFW⟩:(lz != 0)=true∧F=bM L N2:=by
        rcases HQ.out with⟨h,_⟩|⟨_,h,_,h2⟩|⟨⟨_,h⟩|⟨_,h⟩|⟨_,h⟩,_,h2⟩
        · exact absurd h hL
        all_goals exact⟨by rw[h];rfl,h2⟩
       have HWN2:=Hh (hFW ▸ HWN.out);clear hFW hL;go_wp2_with fail
       refine (HWN2.out _).mono ?_;rintro e w3 ⟨rfl,rfl⟩;go_wp2_with fail
       go_meet
       case rel=>exact⟨rfl,rfl⟩
    case rest =>
    obtain⟨rfl,rfl⟩:=hcut;obtain⟨b0,b1,b2,fb0,fb1,fb2⟩:=bE HF4.out.b;have hlb:=aA HF4.out.b;cases F
    · obtain⟨s0,s1,t0,t1⟩:=aL HF4.out.r;have hlx:=aA HF4.out.r;have hN:lU ⟨page,op,mn,args,ex,al⟩ d n=none:=by
       unfold lU;rw[if_neg];intro h;simp only[Qe,Xk,Yn] at h
       have:=h.1.1 j HLT.out
       rw[HF.out] at this;cases this
      have HN:=Hh hN;clear hN;go_wp2_with fail
      generalize hF:World.setCell (World.setCell w4 _ _) _ _=W9;have hb9:Below w w W9:=by
       rw[←hF];exact (HF4.out.below.setCell (p:=⟨w+1,0,none⟩) (by show w.heap.size≤w.heap.size+1;omega) _).setCell (p:=⟨w+1,1,none⟩) (by show w.heap.size≤w.heap.size+1;omega) _
      have h91:W9.heap[w.heap.size+1]? = some (.cells #[(),zz] 53 (0,0)):=by rw[←hF];exact aG (aG HF4.out.r)
      clear hF;obtain⟨r0,r1,_,_⟩:=aL h91;have hl91:=aA h91;refine bodyPost_ret (v:=iO none (.slice none 0 0)) (by simp[results,results56,go_sem,iO,r0,r1]) rfl ⟨_,by rw[HN.out],fun i hi=>(by rw[HN.out] at hi;cases hi),hb9⟩
    · obtain⟨o0,o1,_,_⟩:=aL HF4.out.o;have hlo:=aA HF4.out.o;have hws:=HF4.out.below.size;have hlow:=HF4.out.lo;go_wp2_with (at_builtin;refine wpList_append_own _ rfl _ _ 51 rfl (w.heap.size+1+1+1) 144 i0 (.agg #[(0:Int),(0:Int),(0:Int)]) 3 24 underlying51 hi hzz0 hzz1 hzz2 rfl dc _ _ _ rfl (HF4.out.row.own.alloc _) ⟨w4,0,none⟩ 1 1 [.int .i64 x,.int .i64 y,.int .i64 N2] rfl rfl (aPy (aF w4 _)) (fun u hu=>Sd (l:=[(x,y,N2)]) hu) (by unfold maxLen;omega) om (by rw[Qa];omega) ?_)
      intro v' w5 hown' hgrow _;obtain⟨g',cap',rfl⟩:=ownsRow_succ hown';have hold:∀ (q:Nat) (o:Obj),q<w.heap.size+1+1+1→w4.heap[q]? = some o→w5.heap[q]? = some o:=fun q o hq ho=>(hgrow.block q (by simp[go_sem];have:=aA ho;omega) (fun e=>by have:=(HF4.out.row.own.lt _ e.symm).1;omega)).trans ((Below.heap_alloc _ _ q (aA ho)).trans ho)
      have H40:=Hh (hold _ _ om HF4.out.e);have H41:=Hh (hold _ _ om HF4.out.r);have H42:=Hh (hold _ _ om HF4.out.o);have HOWN4:=Hh hown';have HB4:=Hh ((HF4.out.below.alloc hws (.cells #[.int .i64 x,y,.int .i64 N2] 144)).grown hgrow (by rw[Qa];omega) (fun q hq=>by have:=(HF4.out.row.own.lt q hq).1;omega))
      obtain⟨c0,c1,f0,f1⟩:=aL H42.out;have hl42:=aA H42.out;clear hold hown' hgrow o0 o1 hlo b0 b1 b2 fb0 fb1 fb2 hlb;go_wp2_with fail
      go_roundw
      case rel =>
       refine⟨j+1,.slice g' (j+1) cap',om,by go_num,by rw[HUSD.out,←HUD2.out,←HUD.out];simp[Bool.or_assoc],by rw[HUSN.out,←HUN2.out,←HUN.out,←HBN.out];simp[Bool.or_assoc],Hh ?_,Hh ?_,Hh (aD H40.out om),Hh (aD H41.out om),Hh (aG H42.out),Hh (HB4.out.setCell (p:=⟨w.heap.size+1+1,1,none⟩) (by show w.heap.size≤w.heap.size+1+1;omega) _)⟩
       · rw[Yw,List.all_append,HAL.out];simp[HF.out]
       · rw[Qo,HFL.out,Se];have h1:ORow w5 (w.heap.size+1+1+1) (.slice g' (j+1) cap') (j+1) _:=HOWN4.out;exact dV h1 ((Kb.refl (w.heap.size+1+1) w5).setCell 1 _) om
      case measure=>simp[intOf];omega
  · obtain rfl:j=args.length:=om
    have htk:(eO ⟨page,op,mn,args,ex,al⟩ d n).take args.length=eO ⟨page,op,mn,args,ex,al⟩ d n:=Xj (by simp[eO]);have hro2:=HRO.out;rw[htk] at hro2;have HRO2:=Hh hro2;clear hro2;have hres:lU ⟨page,op,mn,args,ex,al⟩ d n=if ud && un then some (mn,eO ⟨page,op,mn,args,ex,al⟩ d n) else none:=by
     unfold lU;dsimp only;rw[HAL.out,HUD.out,HUN.out];simp
    have HRES:=Hh hres;have hfl:(eO ⟨page,op,mn,args,ex,al⟩ d n).length=args.length:=by simp[eO]
    have HFLN:=Hh hfl;obtain⟨r0,r1,f0,f1⟩:=aL HX0.out;clear htk hres hfl;cases ud<;>cases un
    case true.true =>
     go_wp2_with fail
     generalize hF:World.setCell (World.setCell wr _ _) _ _=F;have h91:F.heap[w.heap.size+1]? = some (.cells #[mn,.slice av args.length cv] 53 (0,0)):=by rw[←hF];exact aG (aG HX0.out)
     have hro9:ORow F (w.heap.size+1+1+1) (.slice av args.length cv) args.length (opc (eO ⟨page,op,mn,args,ex,al⟩ d n)):=by rw[←hF];exact dV HRO2.out (Kb.setCell (Kb.setCell (Kb.refl (w.heap.size+1) _) _ _) _ _) om
     have hb9:Below w w F:=by rw[←hF];exact (HB.out.setCell (p:=⟨w+1,0,none⟩) (by show w.heap.size≤w.heap.size+1;omega) _).setCell (p:=⟨w+1,1,none⟩) (by show w.heap.size≤w.heap.size+1;omega) _
     clear hF;obtain⟨s0,s1,_,_⟩:=aL h91;have hl91:=aA h91;have hR:lU ⟨page,op,mn,args,ex,al⟩ d n=some (mn,eO ⟨page,op,mn,args,ex,al⟩ d n):=by rw[HRES.out];rfl
     refine bodyPost_ret (v:=iO (some (mn,eO ⟨page,op,mn,args,ex,al⟩ d n)) (.slice av args.length cv)) (by simp[results,results56,go_sem,iO,s0,s1]) rfl ⟨.slice av args.length cv,by rw[hR],fun i hi=>?_,hb9⟩
     rw[hR] at hi;cases hi
     show ORow _ _ _ (eO _ d n).length _
     rw[HFLN.out];exact hro9.mono om
    all_goals
     go_wp2_with fail
     generalize hF:World.setCell (World.setCell wr _ _) _ _=F;have h91:F.heap[w.heap.size+1]? = some (.cells #[(),zz] 53 (0,0)):=by rw[←hF];exact aG (aG HX0.out)
     have hb9:Below w w F:=by rw[←hF];exact (HB.out.setCell (p:=⟨w+1,0,none⟩) (by show w.heap.size≤w.heap.size+1;omega) _).setCell (p:=⟨w+1,1,none⟩) (by show w.heap.size≤w.heap.size+1;omega) _
     clear hF;obtain⟨s0,s1,_,_⟩:=aL h91;have hl91:=aA h91;have hR:lU ⟨page,op,mn,args,ex,al⟩ d n=none:=by rw[HRES.out];rfl
     refine bodyPost_ret (v:=iO none (.slice none 0 0)) (by simp[results,results56,go_sem,iO,s0,s1]) rfl ⟨_,by rw[hR],fun i hi=>(by rw[hR] at hi;cases hi),hb9⟩
theorem aHd (c:UInt8) (z n:Int) (hz:(c.toNat:Int)=z) (w:World):Calls prog 92 #[.int .u8 z,n] w fun e w'=>e=.returned (.bool (bM c n))∧w'=w :=
 (gV c z n hz w).mono fun _ _ h=>⟨h.1,h.2.symm⟩
theorem Lf {p:Prop} (h:p:=by
 have hr:R=false:=by
  rw[←HR.out,Yp];refine Bool.eq_false_iff.2 fun h=>?_
  have:=Xk.1 h j (Yn.2 hlt)
  rw[HOK.out,if_neg dc,HBB.out] at this;cases this
 subst hr;go_wp2_with fail
 go_quiet (exact Calls.quiet_of_same (HWI.out _))
 go_wp2_with fail
 go_ret;exact⟨rfl,aHb HBW3.out _⟩):p:=h
theorem aMb {p:Prop} (h:p:=by
 go_wp2_with fail
 go_quiet (exact Calls.quiet_of_same (HWI.out _))
 go_wp2_with fail
 go_roundw
 case rel =>
  refine⟨j+1,om,by go_num,Hh (aHb HB6.out _),Hh ?_⟩
  rw[Yw,List.all_append,HS.out,List.all_cons,HOK.out,if_neg dc,HBB.out];rfl
 case measure=>simp[intOf];omega):p:=h
theorem aJv (E:Ent) (v:Value) (m:List UInt8) (u:Value) (_l lc:List Op3) (w:World) (hE:EntAt E v w) (hl:lc.length≤1000) (hla:E.args.length≤1000) (hx:E.extra.length≤1000)
 (hof:∀ W,Below w w W→Calls prog 98 #[eU m u] W fun e w'=>∃ v',e=.returned (eU m v')∧Row w' v' lc.length (opc lc)∧Below W W w') :
 Calls prog 140 #[cP E v,eU m u] w fun e w'=>e=.returned (.bool (aHn E (m,lc)))∧Below w w w':=by
 obtain⟨R,hR⟩:∃ R,aHn E (m,lc)=R:=⟨_,rfl⟩;rw[hR];unfold aHn at hR;dsimp only at hR;have HSH:=Hh (fun q W (hE:EntAt E v W) (hq:Row W q lc.length (opc lc))=>aHs E v m q lc W hE hq hl hla);have HLT:=Hh (fun k W (hk:k<E.args.length) (hE:EntAt E v W)=>Ci E v k W hE hk hla hx);obtain⟨P,hP⟩:∃ P,cT E (m,lc)=P:=⟨_,rfl⟩;rw[hP] at hR HSH;have HR:=Hh hR;clear hR;have HP:=Hh hP;clear hP;obtain⟨a,c,rfl,_,_⟩:=id hE.row.op;have HOF:=Hh hof;have HE:=Hh hE;clear hof hE;unfold eU at HOF;obtain⟨pg,hpg⟩:∃ x,E.page=x:=⟨_,rfl⟩;obtain⟨op,hop⟩:∃ x,E.op=x:=⟨_,rfl⟩;obtain⟨mn,hmn⟩:∃ x,E.mn=x:=⟨_,rfl⟩;obtain⟨ex,hex⟩:∃ x,E.extra=x:=⟨_,rfl⟩;obtain⟨al,hal⟩:∃ x,E.alias=x:=⟨_,rfl⟩;unfold eU cP at HSH ⊢;unfold cP at HLT;rw[hpg,hop,hmn,hex,hal] at HSH HLT ⊢;go_enter func140,ntmps140
 go_wp2_with fail
 obtain⟨W0,hW0⟩:∃ W,(w.alloc (.cells #[pg,.int .u8 op,mn,.slice a E.args.length c,ex,.bool al] 107)).alloc (.cells #[m,u] 53)=W:=⟨_,rfl⟩;rw[hW0];have hb0:Below w w W0:=by rw[←hW0];exact bl
 have hx1:W0.heap[w.heap.size]? = some (.cells #[pg,.int .u8 op,mn,.slice a E.args.length c,ex,.bool al] 107 (0,0)):=by rw[←hW0];exact aE (aF _ _)
 clear hW0;refine (HOF.out _ hb0).mono ?_;rintro e w1 ⟨v',rfl,hrow,hb1⟩;obtain⟨a',c',rfl,_⟩:=id hrow.op;have hx1':=aB hx1 hb1 (aA hx1);obtain⟨p0,p1,p2,p3,p4,p5⟩:=(aN hx1').1;have hl1:=aA hx1';have HB:=Hh hb0;have HB1:=Hh hb1;have HX1:=Hh hx1';have HRW:=Hh hrow;clear hb0 hb1 hx1 hx1' hrow;go_wp2_with fail
 obtain⟨W1,hW1⟩:∃ W,w1.alloc (.cells #[m,.slice a' lc.length c'] 53)=W:=⟨_,rfl⟩;rw[hW1];have hb2:Below w1 w1 W1:=by rw[←hW1];exact bl
 have hx2:W1.heap[w1.heap.size]? = some (.cells #[m,.slice a' lc.length c'] 53 (0,0)):=by rw[←hW1];exact aF _ _
 have hbw1:Below w w W1:=HB.out.trans ((HB1.out.mono HB.out.size).trans (hb2.mono (Qn HB.out.size HB1.out.size)));have hrw1:=HRW.out.below hb2;have hx1:=aB HX1.out hb2 (aA HX1.out);have hE1:=HE.out.below hbw1;clear hW1 hb2 p0 p1 p2 p3 p4 p5 hl1 HB HB1 HX1 HRW;refine (HSH.out _ _ hE1 hrw1).mono ?_;rintro e w2 ⟨rfl,hb3⟩;have hb4:Below w w w2:=hbw1.trans (hb3.mono hbw1.size);cases P
 · have hr:R=false:=by rw[←HR.out];rfl
   subst hr;go_wp2_with fail
   go_ret;exact⟨rfl,hb4⟩
 · have HBX:=Hh (fun W (hb:Below w2 w2 W)=>And.intro (aB (aB hx1 hb3 (aA hx1)) hb (Qj (aA hx1) hb3.size)) (And.intro (aB (aB hx2 hb3 (aA hx2)) hb (Qj (aA hx2) hb3.size)) (And.intro (hb4.trans (hb.mono hb4.size)) (And.intro (hE1.below (hb3.trans (hb.mono hb3.size))) (hrw1.below (hb3.trans (hb.mono hb3.size)))))));have hlen:E.args.length=lc.length:=by
    have:=HP.out
    unfold cT at this;simp only[Qe,Qf] at this;simpa[kB] using congrArg List.length this.2
   have HLEN:=Hh hlen;clear hx1 hx2 hb3 hb4 hE1 hrw1 hbw1 hlen;go_wp2_with fail
   go_loopw [6] (fun i wr=>∃ j:Nat,j≤lc.length∧i=.int .i64 j∧Hid (Below w2 w2 wr)∧Hid ((List.range j).all (okR E lc)=true)) (fun i _=>lc.length - (intOf i).toNat)
   case atStart=>exact⟨0,Qi _,rfl,Hh br,Hh sm⟩
   case round =>
    obtain⟨j,hj,rfl,HB,HS⟩:=hrel;obtain⟨hx1,hx2,hbw,hE2,hrw2⟩:=HBX.out wr HB.out;obtain⟨p0,p1,p2,p3,p4,p5⟩:=(aN hx1).1;obtain⟨_,q1,_,_⟩:=aL hx2;have hl1:=aA hx1;have hl2:=aA hx2;have HBW:=Hh hbw;have HE2:=Hh hE2;have HR2:=Hh hrw2;clear hx1 hx2 hbw hE2 hrw2;by_cases hlt:j<lc.length
    · go_wp2_with fail
      refine (HLT.out j _ (by have:=HLEN.out;omega) HE2.out).mono ?_;rintro e w3 ⟨rfl,hb5⟩;have hb6:=HB.out.trans (hb5.mono HB.out.size);obtain⟨hx1,hx2,hbw,hE2,hrw2⟩:=HBX.out w3 hb6;have HB6:=Hh hb6;have HBW3:=Hh hbw;clear p0 p1 p2 p3 p4 p5 q1 hl1 hl2 HE2 HR2 HBW hb5 hb6 hbw;obtain⟨p0,p1,p2,p3,p4,p5⟩:=(aN hx1).1;obtain⟨_,q1,_,_⟩:=aL hx2;have hl1:=aA hx1;have hl2:=aA hx2;obtain⟨x,hxx⟩:∃ x,E.args[j]? = some x:=⟨_,Qb (by have:=HLEN.out;omega)⟩;obtain⟨y,hyy⟩:∃ y,lc[j]? = some y:=⟨_,Qb hlt⟩;obtain⟨_,_,hs1,_,hh1⟩:=hE2.row.op;obtain⟨_,_,hs2,_,hh2⟩:=hrw2.op;obtain⟨g,o,hg0,hg,hcs⟩:=hh1 (by rintro h;rw[h] at hxx;simp at hxx);obtain⟨g2,o2,hg02,hg2,hcs2⟩:=hh2 (by rintro h;rw[h] at hyy;simp at hyy);injection hs1 with hs1a _ hs1c
      subst hs1c;injection hs2 with hs2a _ hs2c
      subst hs2c;obtain rfl:=hs1a.trans hg0;obtain rfl:=hs2a.trans hg02;obtain⟨_,_,m2⟩:=hcs j x hxx;obtain⟨_,_,n2⟩:=hcs2 j y hyy;obtain⟨x0,x1,x2⟩:=x;obtain⟨y0,y1,y2⟩:=y;dsimp only at m2 n2;have hok:okR E lc j=if aV E j=0 then decide (x2=y2) else bM (aV E j) y2:=by
       unfold okR cX;rw[Xh,Xh,hxx,hyy];rfl
      have hi0:(0:Int)≤(j:Int):=om
      have hi1:(j:Int)<(lc.length:Int):=om
      have hi2:(j:Int)<(E.args.length:Int):=by have:=HLEN.out;omega
      have hlc:=Cj E j;obtain⟨L,hL⟩:∃ L,aV E j=L:=⟨_,rfl⟩;rw[hL] at hok hlc ⊢;have HOK:=Hh hok;clear hx1 hx2 hE2 hrw2 hxx hyy hcs hcs2 hh1 hh2 hL hok hs1a hs2a hg0 hg02;rcases hlc with rfl|rfl|rfl|rfl|rfl
      · by_cases hn:x2=y2
        · have hnb:(x2 != y2)=false:=by simp[hn]
          have HN:=Hh hn;clear hn;go_wp2_with fail
          go_quiet (fail)
          go_wp2_with fail
          go_roundw
          case rel =>
           refine⟨j+1,om,by go_num,Hh (aHb HB6.out _),Hh ?_⟩
           rw[Yw,List.all_append,HS.out,List.all_cons,HOK.out];simp[HN.out]
          case measure=>simp[intOf];omega
        · have hnb:(x2 != y2)=true:=by simp[hn]
          have hr:R=false:=by
           rw[←HR.out,Yp];refine Bool.eq_false_iff.2 fun h=>?_
           have:=Xk.1 h j (Yn.2 hlt)
           rw[HOK.out,if_pos rfl,Qf] at this;exact hn this
          subst hr;clear hn;go_wp2_with fail
          go_quiet (fail)
          go_wp2_with fail
          go_ret;exact⟨rfl,aHb HBW3.out _⟩
      · have hwi:=fun W=>aHd 100 100 y2 dc W;obtain⟨B,hB⟩:∃ B,bM 100 y2=B:=⟨_,rfl⟩;rw[hB] at hwi;have HWI:=Hh hwi;have HBB:=Hh hB;clear hwi hB;cases B
        · exact Lf
        · exact aMb
      · have hwi:=fun W=>aHd 101 101 y2 dc W;obtain⟨B,hB⟩:∃ B,bM 101 y2=B:=⟨_,rfl⟩;rw[hB] at hwi;have HWI:=Hh hwi;have HBB:=Hh hB;clear hwi hB;cases B
        · exact Lf
        · exact aMb
      · have hwi:=fun W=>aHd 110 110 y2 dc W;obtain⟨B,hB⟩:∃ B,bM 110 y2=B:=⟨_,rfl⟩;rw[hB] at hwi;have HWI:=Hh hwi;have HBB:=Hh hB;clear hwi hB;cases B
        · exact Lf
        · exact aMb
      · have hwi:=fun W=>aHd 119 119 y2 dc W;obtain⟨B,hB⟩:∃ B,bM 119 y2=B:=⟨_,rfl⟩;rw[hB] at hwi;have HWI:=Hh hwi;have HBB:=Hh hB;clear hwi hB;cases B
        · exact Lf
        · exact aMb
    · obtain rfl:j=lc.length:=om
      have hs:=HS.out;obtain rfl:R=true:=by rw[←HR.out,hs];rfl
      clear hs;go_wp2_with fail
      go_ret;exact⟨rfl,HBW.out⟩
end
end Go.Proofs.YtoigglljnklhlaaGreatDoor
