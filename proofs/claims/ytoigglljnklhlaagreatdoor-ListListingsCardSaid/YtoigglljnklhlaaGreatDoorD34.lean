/- Joined. -/
import Derived.Test.YtoigglljnklhlaaGreatDoorD18
set_option maxHeartbeats 8000000
set_option maxRecDepth 100000
namespace Go.Proofs.YtoigglljnklhlaaGreatDoor
open Go.RowKit Go.Sort
def aHi (b p:Nat):List Ent:=(List.range' p (b+1 - p)).flatMap aHg
def aIZ (b p op:Nat):List Ent:=(List.range' op (256 - op)).filterMap (fun o=>(atP p o).1)++aHi b (p+1)
theorem aKq (b p op:Nat) (h:op<256):aIZ b p op=match (atP p op).1 with|none=>aIZ b p (op+1)|some e=>e::aIZ b p (op+1):=by
 unfold aIZ;rw[show 256 - op=(255 - op)+1 by omega,show 256 - (op+1)=255 - op by omega,List.range'_succ,List.filterMap_cons]
 cases (atP p op).1<;>rfl
theorem aJp (b p:Nat):aIZ b p 256=aHi b (p+1):=by simp[aIZ]
theorem aII (b p:Nat) (h:p≤b):aHi b p=aHg p++aHi b (p+1):=by
 unfold aHi;rw[show b+1 - p=(b - p)+1 by omega,show b+1 - (p+1)=b - p by omega,List.range'_succ,List.flatMap_cons]
theorem aIu (p:Nat):aHg p=(List.range' 0 256).filterMap (fun o=>(atP p o).1):=by
 unfold aHg;rw[List.range_eq_range']
theorem aIH (b p:Nat) (h:p≤b):aHi b p=aIZ b p 0:=by
 rw[aII b p h,aIu];rfl
theorem aJo (b p:Nat) (h:b<p):aHi b p=[]:=by
 unfold aHi;rw[show b+1 - p=0 by omega]
 rfl
theorem aIk (l:List Op3):aHi (if l.any Xw then 6 else 2) (if l.any Xw then 3 else 0)=(aHe l).flatMap aHg:=by
 unfold aHi aHe;cases l.any Xw<;>rfl
def aKv (p op:Nat):Bool :=
 decide ((atP p op).2=1) == (atP p op).1.isSome && decide ((atP p op).2≤3) && (match (atP p op).1 with|some e=>decide (e.args.length≤3) && decide (e.extra.length≤3)|none=>true)
theorem aKx:∀ p:Fin 7,∀ op:Fin 256,aKv p.val op.val=true:=by decide +kernel
theorem aKy {p op:Nat} (hp:p<7) (ho:op<256):((atP p op).2=1↔(atP p op).1.isSome=true)∧((atP p op).1.getD ent0).args.length≤3∧((atP p op).1.getD ent0).extra.length≤3:=by
 have h:=aKx ⟨p,hp⟩ ⟨op,ho⟩;unfold aKv at h;simp only[Bool.and_eq_true,beq_iff_eq,decide_eq_true_eq] at h;obtain⟨⟨h1,_⟩,h2⟩:=h;refine⟨?_,?_⟩
 · rw[←h1,decide_eq_true_iff]
 · cases he:(atP p op).1 with
   | none=>exact⟨by simp[ent0],by simp[ent0]⟩
   | some e =>
     rw[he] at h2;simpa using h2
theorem aKw {p op:Nat} (hp:p<7) (ho:op<256):atR p op=atP p op:=(Uj ⟨p,hp⟩ ⟨op,ho⟩).symm
theorem aIS (i:aY):(aHx i).2=if iR i=0 then (kQ (fun e=>aHn e (bV i)) (bV i) (aHi (if (bV i).2.any Xw then 6 else 2) (if (bV i).2.any Xw then 3 else 0)) 11).2 else iR i:=by
 rw[aIk];unfold aHx aIb;split<;>rfl
end Go.Proofs.YtoigglljnklhlaaGreatDoor
namespace Go.Proofs.YtoigglljnklhlaaGreatDoor
open Go.RowKit Go.Sort
open Go.Proofs.Tryz
theorem Gl (p:Nat) (hp:p<7) (w:World):Calls prog 90 #[.int .i64 p] w fun e w'=>∃ a c,e=.returned (.slice a (fA p) c)∧Below w.heap.size w w':=by
 have key:∀ (x:Int) (n:Nat),(x=0∧n=0)∨(x=1∧n=1)∨(x=2∧n=1)∨(x=3∧n=1)∨(x=4∧n=1)∨(x=5∧n=2)∨(x=6∧n=2)→Calls prog 90 #[.int .i64 x] w fun e w'=>∃ a c,e=.returned (.slice a n c)∧Below w.heap.size w w':=by
  intro x n h;rcases h with⟨rfl,rfl⟩|⟨rfl,rfl⟩|⟨rfl,rfl⟩|⟨rfl,rfl⟩|⟨rfl,rfl⟩|⟨rfl,rfl⟩|⟨rfl,rfl⟩;all_goals
   go_enter func90,ntmps90
   go_wp2_with fail
   go_ret;exact⟨_,_,rfl,bl⟩
 refine key _ _ ?_;unfold fA;rcases (by omega:p=0∨p=1∨p=2∨p=3∨p=4∨p=5∨p=6) with rfl|rfl|rfl|rfl|rfl|rfl|rfl<;>simp
theorem Ba (l:List UInt8) (i:Nat) (c:UInt8) (h:l[i]? = some c) (hs:i<(⟨l.toArray⟩:ByteArray).size):((⟨l.toArray⟩:ByteArray)[i]'hs)=c:=by
 obtain⟨h1,h2⟩:=List.getElem?_eq_some_iff.1 h;rw[←h2];show l.toArray[i]'_=_
 simp
theorem Fx (E:Ent) (a:Option Addr) (n c:Nat) (w:World) (hp:E.page<7) (hl:E.extra.length≤1000):Calls prog 54 #[cP E (.slice a n c)] w fun e w'=>e=.returned (.int .i64 (kW E))∧Below w.heap.size w w':=by
 obtain⟨page,op,mn,args,ex,al⟩:=E;dsimp only at hp hl;have HP:=Hh (fun W=>Gl page hp W);have hpn:fA page≤2:=by unfold fA;split;omega;split<;>omega
 unfold kW;dsimp only;generalize fA page=pn at *;have hsz:(⟨ex.toArray⟩:ByteArray).size=ex.length:=by show ex.toArray.size=_;simp
 show Calls prog 54 #[.agg #[.int .i64 page,.int .u8 op,.string ⟨mn.toArray⟩,.slice a n c,.string ⟨ex.toArray⟩,.bool al]] w _
 go_enter func54,ntmps54
 go_wp2_with fail
 generalize hW0:World.alloc w _=W0;have h0:W0.heap[w.heap.size]? = some (.cells #[.int .i64 page,.int .u8 op,.string ⟨mn.toArray⟩,.slice a n c,.string ⟨ex.toArray⟩,.bool al] 107 (0,0)):=by rw[←hW0];exact aF _ _
 have HB0:=Hh (show Below w.heap.size w W0 by rw[←hW0];exact bl);have H0:=Hh h0;clear hW0 h0;obtain⟨⟨x0,x1,x2,x3,x4,x5⟩,_⟩:=aN H0.out;have hl0:=aA H0.out;go_wp2_with fail
 (with_reducible refine (HP.out _).mono ?_);rintro e w1 ⟨a1,c1,rfl,hb1⟩;have h1:=aB H0.out hb1 hl0;have HB1:=Hh (HB0.out.trans (hb1.mono HB0.out.size));clear x0 x1 x2 x3 x4 x5 hl0 hb1;obtain⟨⟨x0,x1,x2,x3,x4,x5⟩,_⟩:=aN h1;have hl1:=aA h1;clear h1;go_wp2_with fail
 go_loopw [3,4] (fun s i wr=>wr=w1∧∃ j:Nat,j≤ex.length∧i=.int .i64 j∧s=.int .i64 ((pn+1+j+(ex.take j).count 119:Nat):Int)) (fun _ i _=>ex.length - (intOf i).toNat)
 case atStart=>exact⟨rfl,0,Nat.zero_le _,rfl,by simp⟩
 case round =>
  obtain⟨rfl,j,hj,rfl,rfl⟩:=hrel;have hcn:(ex.take j).count 119≤1000:=by have:=List.count_le_length (a:=(119:UInt8)) (l:=ex.take j);rw[List.length_take] at this;omega
  by_cases hlt:j<ex.length
  · obtain⟨x,hx⟩:∃ x,ex[j]? = some x:=⟨_,List.getElem?_eq_getElem hlt⟩;have hsp:j<(⟨ex.toArray⟩:ByteArray).size:=by rw[hsz];exact hlt
    have hix:=Ba ex j x hx hsp;have hcs:(ex.take (j+1)).count 119=(ex.take j).count 119+if x=119 then 1 else 0:=by
     rw[List.take_add_one,hx];simp[List.count_append,List.count_cons]
    have HX:=Hh hx;clear hx;generalize (ex.take j).count 119=q at *;have HCS:=Hh hcs;clear hcs;have hi1:(j:Int)<(ex.length:Int):=om
    have hxl:=x.toNat_lt;by_cases h9:x=119
    · have HH:=Hh h9;have hb:((x.toNat:Int) == 119)=true:=by subst h9;rfl
      clear h9;go_wp2_with fail
      go_roundw
      case rel =>
       refine⟨trivial,j+1,om,by go_num,?_⟩
       rw[HCS.out,if_pos HH.out];congr 1;omega
      case measure=>simp[intOf];omega
    · have HH:=Hh h9;have hb:((x.toNat:Int) == 119)=false:=by simp;intro e;exact h9 (UInt8.toNat_inj.1 (by rw[show (119:UInt8).toNat=119 from rfl];omega))
      clear h9;go_wp2_with fail
      go_roundw
      case rel =>
       refine⟨trivial,j+1,om,by go_num,?_⟩
       rw[HCS.out,if_neg HH.out];congr 1;omega
      case measure=>simp[intOf];omega
  · obtain rfl:j=ex.length:=om
    rw[List.take_length] at hcn;go_wp2_with fail
    go_ret;rw[List.take_length];exact⟨rfl,HB1.out⟩
theorem Id (l:List UInt8) (c:UInt8) (z:Int) (hz:(c.toNat:Int)=z) (w:World) (hl:l.length≤100000):Calls prog 132 #[.string ⟨l.toArray⟩,.int .u8 z] w fun e w'=>e=.returned (.bool (decide (c∈l)))∧w=w':=by
 obtain⟨D,hD⟩:∃ D,decide (c∈l)=D:=⟨_,rfl⟩;rw[hD];have HD:=Hh hD;have HZ:=Hh hz;have hsz:(⟨l.toArray⟩:ByteArray).size=l.length:=by show l.toArray.size=_;simp
 clear hD hz;go_enter func132,ntmps132
 go_wp2_with fail
 go_loopw [5] (fun i wr=>wr=w∧∃ j:Nat,j≤l.length∧i=.int .i64 j∧Hid (c∉l.take j)) (fun i _=>l.length - (intOf i).toNat)
 case atStart=>exact⟨rfl,0,Nat.zero_le _,rfl,Hh sm⟩
 case round =>
  obtain⟨rfl,j,hj,rfl,HN⟩:=hrel;by_cases hlt:j<l.length
  · obtain⟨x,hx⟩:∃ x,l[j]? = some x:=⟨_,List.getElem?_eq_getElem hlt⟩;have hsp:j<(⟨l.toArray⟩:ByteArray).size:=by rw[hsz];exact hlt
    have hix:=Ba l j x hx hsp;have HX:=Hh hx;clear hx;have hi1:(j:Int)<(l.length:Int):=om
    by_cases hc:x=c
    · have hb:((x.toNat:Int) == z)=true:=by rw[hc,HZ.out];simp
      have HC:=Hh hc;clear hc;go_wp2_with fail
      go_ret
      have:D=true:=by rw[←HD.out];simp only[decide_eq_true_eq];rw[←HC.out];exact List.mem_of_getElem? HX.out
      exact⟨by rw[this];rfl,rfl⟩
    · have hb:((x.toNat:Int) == z)=false:=by
       simp only[beq_eq_false_iff_ne,ne_eq];intro e;rw[←HZ.out] at e;exact hc (UInt8.toNat_inj.1 om)
      have HC:=Hh hc;clear hc;go_wp2_with fail
      go_roundw
      case rel =>
       refine⟨trivial,j+1,om,by go_num,Hh ?_⟩
       rw[List.take_add_one,HX.out];simp only[Option.toList_some,List.mem_append,List.mem_singleton];rintro (h|h)
       · exact HN.out h
       · exact HC.out h.symm
      case measure=>simp[intOf];omega
  · obtain rfl:j=l.length:=om
    go_wp2_with fail
    go_ret;have hn:=HN.out;rw[List.take_length] at hn
    have:D=false:=by rw[←HD.out];simp[hn]
    exact⟨by rw[this];rfl,rfl⟩
theorem gV (c:UInt8) (z n:Int) (hz:(c.toNat:Int)=z) (w:World):Calls prog 92 #[.int .u8 z,.int .i64 n] w fun e w'=>e=.returned (.bool (bM c n))∧w=w':=by
 have hne:∀ d:UInt8,c≠d→(z == (d.toNat:Int))=false:=fun d h=>by
  simp only[beq_eq_false_iff_ne,ne_eq];intro e;rw[←hz] at e;exact h (UInt8.toNat_inj.1 om)
 have heq:∀ d:UInt8,c=d→z=(d.toNat:Int):=fun d h=>by rw[←hz,h]
 by_cases h0:c=100
 · have h1:=heq _ h0;have e:bM c n=(decide (-128≤n) && decide (n≤127)):=by unfold bM;rw[if_pos (.inl h0)]
   rw[e];rw[show (((100:UInt8).toNat:Nat):Int)=100 from rfl] at h1
   subst h1;clear hne heq hz e h0;by_cases ha:-128≤n<;>by_cases hb:n≤127
   all_goals
    go_enter func92,ntmps92
    go_wp2_with fail
    go_ret;exact⟨by simp[ha,hb],rfl⟩
 by_cases h9:c=101
 · have h1:=heq _ h9;have e:bM c n=(decide (-128≤n) && decide (n≤127)):=by unfold bM;rw[if_pos (.inr h9)]
   rw[e];rw[show (((101:UInt8).toNat:Nat):Int)=101 from rfl] at h1
   subst h1;clear hne heq hz e h0 h9;by_cases ha:-128≤n<;>by_cases hb:n≤127
   all_goals
    go_enter func92,ntmps92
    go_wp2_with fail
    go_ret;exact⟨by simp[ha,hb],rfl⟩
 by_cases h8:c=110
 · have h1:=heq _ h8;have e:bM c n=(decide (0≤n) && decide (n≤255)):=by unfold bM;rw[if_neg (by simp[h0,h9]),if_pos h8]
   rw[e];rw[show (((110:UInt8).toNat:Nat):Int)=110 from rfl] at h1
   subst h1;clear hne heq hz e h0 h9 h8;by_cases ha:0≤n<;>by_cases hb:n≤255
   all_goals
    go_enter func92,ntmps92
    go_wp2_with fail
    go_ret;exact⟨by simp[ha,hb],rfl⟩
 · have e:bM c n=(decide (0≤n) && decide (n≤65535)):=by unfold bM;rw[if_neg (by simp[h0,h9]),if_neg h8]
   rw[e];have h1:(z == 100)=false:=hne _ h0;have h2:(z == 101)=false:=hne _ h9;have h3:(z == 110)=false:=hne _ h8;clear hne heq hz e h0 h9 h8;by_cases ha:0≤n<;>by_cases hb:n≤65535
   all_goals
    go_enter func92,ntmps92
    go_wp2_with fail
    go_ret;exact⟨by simp[ha,hb],rfl⟩
structure EntAt (E:Ent) (v:Value) (w:World):Prop where
 row:Row w v E.args.length (opc E.args)
theorem EntAt.below {E:Ent} {v:Value} {w w':World} (h:EntAt E v w) (hb:Below w.heap.size w w'):EntAt E v w':=⟨h.row.below hb⟩
def lE (p:Op3):Bool:=decide (p.1=6) || decide (p.1=7)
theorem Ci (E:Ent) (v:Value) (k:Nat) (w:World) (hE:EntAt E v w) (hk:k<E.args.length) (hl:E.args.length≤1000) (hx:E.extra.length≤1000) :
 Calls prog 91 #[cP E v,.int .i64 k] w fun e w'=>e=.returned (.int .u8 (aV E k).toNat)∧Below w.heap.size w w':=by
 obtain⟨o,ho⟩:∃ o,E.args[k]? = some o:=⟨_,List.getElem?_eq_getElem hk⟩;have hlet:aV E k=if o.1=5∧100∈E.extra then 100 else if o.1=10∧101∈E.extra then 101 else if o.1≠6∧o.1≠7 then 0 else if (E.args.drop (k+1)).any lE then 0 else if 110∈E.extra then 110 else if 119∈E.extra then 119 else 0:=by
  unfold aV;rw[List.getD_eq_getElem?_getD,ho];rfl
 obtain⟨L,hL⟩:∃ L,aV E k=L:=⟨_,rfl⟩;rw[hL] at hlet ⊢;have hh:=fun (c:UInt8) z hz W=>Id E.extra c z hz W om;have H100:=Hh (hh 100 100 rfl);have H101:=Hh (hh 101 101 rfl);have H110:=Hh (hh 110 110 rfl);have H119:=Hh (hh 119 119 rfl);obtain⟨page,op,mn,args,ex,al⟩:=E;dsimp only at *;obtain⟨a,c,rfl,hcap,hop⟩:=hE.row.op;obtain⟨g,off,rfl,hg,hcs⟩:=hop (by rintro rfl;exact absurd hk (Nat.not_lt_zero _))
 obtain⟨k0,k1,k2⟩:=hcs k o ho;have HCS:=Hh hcs;have HLET:=Hh hlet;have HHK:=Hh hk;have hi0:(0:Int)≤(k:Int):=om
 have hi1:(k:Int)<(args.length:Int):=om
 clear hcs hlet hL hh hop hE ho;show Calls prog 91 #[.agg #[.int .i64 page,.int .u8 op,.string ⟨mn.toArray⟩,.slice (some ⟨g,off,none⟩) args.length c,.string ⟨ex.toArray⟩,.bool al],.int .i64 k] w _
 obtain⟨x,y,z⟩:=o;dsimp only at k0 k1 k2 HLET;have fin:∀ {L':UInt8} {q:Int} {w':World},(L'.toNat:Int)=q→L=L'→Below w.heap.size w w'→Ending.returned (.int .u8 q)=.returned (.int .u8 (L.toNat:Int))∧Below w.heap.size w w':=fun h1 h2 h3=>⟨by rw[h2,h1],h3⟩
 by_cases h5:x=5
 · subst h5;obtain⟨D,hD⟩:∃ D,decide ((100:UInt8)∈ex)=D:=⟨_,rfl⟩;have H1:=Hh (hD ▸ H100.out);have HD:=Hh hD;clear hD;go_enter func91,ntmps91
   go_wp2_with fail
   (with_reducible refine (H1.out _).mono ?_);rintro e w2 ⟨rfl,rfl⟩;cases D
   · go_wp2_with fail
     go_ret;have hn:¬ ((100:UInt8)∈ex):=by have:=HD.out;simpa using this
     exact fin (L':=0) rfl (by rw[HLET.out];simp[hn]) (bl)
   · go_wp2_with fail
     go_ret;have hn:((100:UInt8)∈ex):=by have:=HD.out;simpa using this
     exact fin (L':=100) rfl (by rw[HLET.out];simp[hn]) (bl)
 by_cases h10:x=10
 · subst h10;obtain⟨D,hD⟩:∃ D,decide ((101:UInt8)∈ex)=D:=⟨_,rfl⟩;have H1:=Hh (hD ▸ H101.out);have HD:=Hh hD;clear hD h5;go_enter func91,ntmps91
   go_wp2_with fail
   (with_reducible refine (H1.out _).mono ?_);rintro e w2 ⟨rfl,rfl⟩;cases D
   · go_wp2_with fail
     go_ret;have hn:¬ ((101:UInt8)∈ex):=by have:=HD.out;simpa using this
     exact fin (L':=0) rfl (by rw[HLET.out];simp[hn]) (bl)
   · go_wp2_with fail
     go_ret;have hn:((101:UInt8)∈ex):=by have:=HD.out;simpa using this
     exact fin (L':=101) rfl (by rw[HLET.out];simp[hn]) (bl)
 have e5:(x == 5)=false:=beq_eq_false_iff_ne.2 h5;have e10:(x == 10)=false:=beq_eq_false_iff_ne.2 h10;by_cases h67:x≠6∧x≠7
 · have e6:(x != 6)=true:=bne_iff_ne.2 h67.1;have e7:(x != 7)=true:=bne_iff_ne.2 h67.2;have hl0:L=0:=by rw[HLET.out,if_neg (fun h=>h5 h.1),if_neg (fun h=>h10 h.1),if_pos h67]
   have HL0:=Hh hl0;clear h5 h10 h67 hl0;go_enter func91,ntmps91
   go_wp2_with fail
   go_ret;exact fin (L':=0) rfl HL0.out (bl)
 have hl1:L=if (args.drop (k+1)).any lE then 0 else if 110∈ex then 110 else if 119∈ex then 119 else 0:=by rw[HLET.out,if_neg (fun h=>h5 h.1),if_neg (fun h=>h10 h.1),if_neg h67]
 have HL1:=Hh hl1;have h67:x=6∨x=7:=om
 clear hl1 h5 h10 e5 e10;obtain⟨D,hD⟩:∃ D,decide ((110:UInt8)∈ex)=D:=⟨_,rfl⟩;obtain⟨D',hD'⟩:∃ D,decide ((119:UInt8)∈ex)=D:=⟨_,rfl⟩;have H1:=Hh (hD ▸ H110.out);have H2:=Hh (hD' ▸ H119.out);have HD:=Hh hD;have HD':=Hh hD';clear hD hD';rcases h67 with rfl|rfl;all_goals
  go_enter func91,ntmps91
  go_wp2_with fail
  generalize hW0:World.alloc (World.alloc w _) _=W0;have h0:W0.heap[w.heap.size]? = some (.cells #[.int .i64 page,.int .u8 op,.string ⟨mn.toArray⟩,.slice (some ⟨g,off,none⟩) args.length c,.string ⟨ex.toArray⟩,.bool al] 107 (0,0)):=by rw[←hW0];exact aE (aF _ _)
  have hB0:Below w.heap.size w W0:=by rw[←hW0];exact bl
  obtain⟨⟨x0,x1,x2,x3,x4,x5⟩,_⟩:=aN h0;have hl0:=aA h0;have HB0:=Hh hB0;clear hW0 h0 hB0 k0 k1 k2;go_loopw [6] (fun i wr=>wr=W0∧∃ j:Nat,k+1+j≤args.length∧i=.int .i64 ((k+1+j:Nat):Int)∧Hid (((args.drop (k+1)).take j).any lE=false)) (fun i _=>args.length - (intOf i).toNat)
  case atStart=>exact⟨rfl,0,by have:=HHK.out;omega,by go_num,Hh sm⟩
  case round =>
   obtain⟨rfl,j,hj,rfl,HN⟩:=hrel;by_cases hlt:k+1+j<args.length
   · obtain⟨⟨p0,p1,p2⟩,hp⟩:∃ p,args[k+1+j]? = some p:=⟨_,List.getElem?_eq_getElem hlt⟩;obtain⟨q0,q1,q2⟩:=HCS.out (k+1+j) _ hp;dsimp only at q0 q1 q2;have HP:=Hh hp;have m0:wr.cell? ⟨g,off+(k+1+j)*3,none⟩=some (.int .i64 p0):=(HB0.out.cell (p:=⟨g,off+(k+1+j)*3,none⟩) hg).trans q0;have hstep:((args.drop (k+1)).take (j+1)).any lE=(((args.drop (k+1)).take j).any lE || lE (p0,p1,p2)):=by
      rw[List.take_add_one,List.getElem?_drop,hp];simp
     have HST:=Hh hstep;have hal:args.length≤1000:=hl;obtain⟨J,hJ⟩:∃ J,k+1+j=J:=⟨_,rfl⟩;rw[hJ] at m0 hlt ⊢;have HJ:=Hh hJ;have hi1:(J:Int)<(args.length:Int):=om
     have hi2:(0:Int)≤(J:Int):=om
     clear hp q0 q1 q2 hstep hJ hj;by_cases hk6:p0=6∨p0=7
     · have hz:L=0:=by
        rw[HL1.out,if_pos];rw[←List.take_append_drop (j+1) (args.drop (k+1)),List.any_append,HST.out]
        have:lE (p0,p1,p2)=true:=by unfold lE;rcases hk6 with h|h<;>simp[h]
        rw[this];simp
       have HZ:=Hh hz;clear hz;rcases hk6 with rfl|rfl;all_goals
        go_wp2_with fail
        go_ret;exact fin (L':=0) rfl HZ.out HB0.out
     · have e6:(p0 == 6)=false:=by simp;omega
       have e7:(p0 == 7)=false:=by simp;omega
       have hz:lE (p0,p1,p2)=false:=by unfold lE;simp;omega
       have HZ:=Hh hz;clear hz hk6;go_wp2_with fail
       go_roundw
       case rel=>exact⟨trivial,j+1,by have:=HJ.out;omega,by have:=HJ.out;go_num,Hh (by rw[HST.out,HN.out,HZ.out];rfl)⟩
       case measure=>simp[intOf];omega
   · have hje:k+1+j=args.length:=om
     rw[hje];have hnn:(args.drop (k+1)).any lE=false:=by
      have:=HN.out
      rwa [List.take_of_length_le (by rw[List.length_drop];omega)] at this
     have HNN:=Hh (show L=if 110∈ex then 110 else if 119∈ex then 119 else 0 by rw[HL1.out,hnn];rfl);clear hje hnn hj;go_wp2_with fail
     (with_reducible refine (H1.out _).mono ?_);rintro e w2 ⟨rfl,rfl⟩;cases D
     · go_wp2_with fail
       (with_reducible refine (H2.out _).mono ?_);rintro e w2 ⟨rfl,rfl⟩;have h1:¬ ((110:UInt8)∈ex):=by have:=HD.out;simpa using this
       have HH1:=Hh h1;clear h1;cases D'
       · go_wp2_with fail
         go_ret;have h2:¬ ((119:UInt8)∈ex):=by have:=HD'.out;simpa using this
         exact fin (L':=0) rfl (by rw[HNN.out,if_neg HH1.out,if_neg h2]) HB0.out
       · go_wp2_with fail
         go_ret;have h2:((119:UInt8)∈ex):=by have:=HD'.out;simpa using this
         exact fin (L':=119) rfl (by rw[HNN.out,if_neg HH1.out,if_pos h2]) HB0.out
     · go_wp2_with fail
       go_ret;have h1:((110:UInt8)∈ex):=by have:=HD.out;simpa using this
       exact fin (L':=110) rfl (by rw[HNN.out,if_pos h1]) HB0.out
end Go.Proofs.YtoigglljnklhlaaGreatDoor
