/- Joined. -/
import Derived.Test.YtoigglljnklhlaaGreatDoorD30
set_option maxHeartbeats 8000000
set_option maxRecDepth 100000
namespace Go.Proofs.YtoigglljnklhlaaGreatDoor
open Go.RowKit Go.Sort
abbrev RgX:=(Int × List UInt8) × Value
def Xd (x:RgX):List Value:=[.int .i64 x.1.1,x.2]
def rgc (l:List RgX):List Value:=l.flatMap Xd
structure RgAt (w:World) (v:Value) (rs:List RgX):Prop where
 row:Row w v rs.length (rgc rs)
 has:∀ x∈rs,Row w x.2 x.1.2.length (aT x.1.2)
theorem RgAt.below {w w':World} {v:Value} {rs:List RgX} (h:RgAt w v rs) (hb:Below w.heap.size w w'):RgAt w' v rs:=⟨h.row.below hb,fun x hx=>(h.has x hx).below hb⟩
theorem RgAt.get {w:World} {v:Value} {rs:List RgX} (h:RgAt w v rs):∃ a cap,v=.slice a rs.length cap∧rs.length≤cap∧(rs≠[]→∃ g o,a=some ⟨g,o,none⟩∧g<w.heap.size∧∀ i x,rs[i]? = some x →
 w.cell? ⟨g,o+i*2,none⟩=some (.int .i64 x.1.1)∧w.cell? ⟨g,o+i*2+1,none⟩=some x.2):=by
 obtain⟨a,cap,hv,hn,hh⟩:=h.row.structs Xd 2 (fun _=>rfl) dc;refine⟨a,cap,hv,hn,fun hne=>?_⟩;obtain⟨g,o,rfl,hg,hc⟩:=hh hne;exact⟨g,o,rfl,hg,fun i x hx=>⟨hc i x hx 0 dc,hc i x hx 1 dc⟩⟩
structure RsAt (T:TypeId) (w:World) (base:Nat) (v:Value) (q:List RnX) (x:RnX) (bb:Nat):Prop where
 own:w.ownsRow base T 2 v (q.length+1) (rnc (q++[x]))
 old:∀ y∈q,w.ownsRow base 5 1 y.2 y.1.2.length (aT y.1.2)∧∀ k,y.2.ownBlock=some k→k<bb
 last:w.ownsRow bb 5 1 x.2 x.1.2.length (aT x.1.2)
 low:base≤bb
 lw:bb≤w.heap.size
theorem RsAt.below {T:TypeId} {w w':World} {base:Nat} {v:Value} {q:List RnX} {x:RnX} {bb:Nat} (h:RsAt T w base v q x bb) (hb:Below w.heap.size w w'):RsAt T w' base v q x bb :=
 ⟨bK h.own hb,fun y hy=>⟨bK (h.old y hy).1 hb,(h.old y hy).2⟩,bK h.last hb,h.low,Nat.le_trans h.lw hb.size⟩
def RsI (T:TypeId) (w:World) (base:Nat) (v:Value) (rs:List RnX):Prop:=(rs=[]∧v=.slice none 0 0)∨∃ q x bb,rs=q++[x]∧RsAt T w base v q x bb
theorem RsAt.rns {T:TypeId} {w:World} {base:Nat} {v:Value} {q:List RnX} {x:RnX} {bb:Nat} (h:RsAt T w base v q x bb):RnsAt T w base v (q++[x]):=by
 refine⟨by rw[List.length_append];exact h.own,fun y hy=>?_⟩
 rcases List.mem_append.1 hy with hy|hy
 · exact (h.old y hy).1
 · obtain rfl:y=x:=by simpa using hy
   exact aP h.last h.low
theorem RsI.rns {T:TypeId} {w:World} {base:Nat} {v:Value} {rs:List RnX} (h:RsI T w base v rs):RnsAt T w base v rs:=by
 rcases h with⟨rfl,rfl⟩|⟨q,x,bb,rfl,h⟩
 · exact RnsAt.nil _ _ _
 · exact h.rns
theorem RsI.push {T:TypeId} {w w':World} {base:Nat} {v v':Value} {rs:List RnX} {a:Nat} (hT:5≠T) (h:RsI T w base v rs) (hb:base≤w'.heap.size)
 (hown:w'.ownsRow base T 2 v' (rs.length+1) (rnc rs++[.int .i64 a,.slice none 0 0])) (hg:w.grownBy w' v.ownBlock):RsAt T w' base v' rs ((a,[]),.slice none 0 0) w'.heap.size:=by
 refine⟨by rw[lA];exact hown,fun y hy=>?_,World.ownsRow_nil _ _ _ _,hb,Nat.le_refl _⟩
 have h1:=(h.rns.has y hy).kept hg (gB (h.rns.has y hy) h.rns.own hT);exact⟨h1,fun k hk=>(h1.lt k hk).2⟩
theorem Ro (q:List RnX) (x:RnX) (r:Rn) (hr:r.1=x.1.1) (u:Value):(rnc (q++[x])).set (q.length*2+1) u=rnc (q++[(r,u)]):=by
 have hl:(rnc q).length=q.length*2:=iN yC 2 (fun _=>rfl) q;rw[lA,lA,List.set_append_right _ _ om,hl,show q.length*2+1 - q.length*2=1 by omega]
 simp[yC,hr]
theorem RsAt.grow {T:TypeId} {w w':World} {base g cap n:Nat} {v':Value} {q:List RnX} {x:RnX} {bb:Nat} {c:UInt8} (hT:5≠T) (h:RsAt T w base (.slice (some ⟨g,0,none⟩) n cap) q x bb)
 (hn:n=q.length+1) (hown:w'.ownsRow bb 5 1 v' (x.1.2.length+1) (aT x.1.2++[.int .u8 c.toNat])) (hg:w.grownBy w' x.2.ownBlock) :
 RsAt T (w'.setCell ⟨g,q.length*2+1,none⟩ v') base (.slice (some ⟨g,0,none⟩) n cap) q ((x.1.1,x.1.2++[c]),v') bb:=by
 subst hn;have ho:=h.own.kept hg (gB h.own h.last (Ne.symm hT));have hl:(rnc (q++[x])).length=(q++[x]).length*2:=iN yC 2 (fun _=>rfl) _;have hne:∀ {b n:Nat} {u:Value} {xs:List Value},w'.ownsRow b 5 1 u n xs→u.ownBlock≠some g:=fun hu=>by
  rcases gB hu ho hT with h1|h1
  · rw[h1];exact fun e=>by cases e
  · exact h1
 refine⟨?_,fun y hy=>?_,?_,h.low,by rw[setCell_size];exact Nat.le_trans h.lw hg.size⟩
 · have:=jR (u:=v') (i:=q.length*2+1) ho (by rw[hl,List.length_append];simp;omega)
   rwa [Ro q x (x.1.1,x.1.2++[c]) rfl] at this
 · have h1:=(h.old y hy).1.kept hg (by
    rcases he:y.2.ownBlock with _|k
    · exact .inl rfl
    · refine .inr fun e=>?_;have h2:=(h.old y hy).2 k he;have h3:=(h.last.lt k e.symm).1;omega)
   exact⟨Kb.owns h1 ((Kb.refl g w').setCell _ v') (hne h1),(h.old y hy).2⟩
 · have:=Kb.owns hown ((Kb.refl g w').setCell (q.length*2+1) v') (hne hown)
   rw[List.length_append,qL];exact this
theorem RsI.below {T:TypeId} {w w':World} {base:Nat} {v:Value} {rs:List RnX} (h:RsI T w base v rs) (hb:Below w.heap.size w w'):RsI T w' base v rs:=by
 rcases h with⟨rfl,rfl⟩|⟨q,x,bb,rfl,h⟩
 · exact .inl ⟨rfl,rfl⟩
 · exact .inr ⟨q,x,bb,rfl,h.below hb⟩
end Go.Proofs.YtoigglljnklhlaaGreatDoor
namespace Go.Proofs.YtoigglljnklhlaaGreatDoor
open Go.RowKit Go.Sort
open Go.Proofs.Tryz
theorem Bs (b:List UInt8) (v:Value) (w:World) (hv:Row w v b.length (aT b)) (hb:b≠[]):Calls prog 51 #[v] w fun e w'=>e=.returned (.tuple #[.int .i64 (dE b).1,.int .i64 (dE b).2])∧w=w':=by
 obtain⟨x,t,rfl⟩:=List.exists_cons_of_ne_nil hb;have hne:∀ d:UInt8,x≠d→((x.toNat:Int) == (d.toNat:Int))=false:=fun d h=>by
  simp only[beq_eq_false_iff_ne,ne_eq];intro e;exact h (UInt8.toNat_inj.1 om)
 obtain⟨a,c,rfl,hcap,h⟩:=hv.byt;obtain⟨g,o,rfl,hg,hc⟩:=h sm;have c0:=hc 0 x rfl;rw[Nat.add_zero] at c0;have hlen:(x::t).length=t.length+1:=rfl;rw[hlen] at hcap ⊢;have hi1:(0:Int)<(t.length:Int)+1:=om
 have HC:=Hh hc;clear hc h hb hv hlen;by_cases h1:x=203
 · subst h1;rw[show ((UInt8.toNat 203:Nat):Int)=203 from rfl] at c0
   clear hne;go_enter func51,ntmps51
   go_wp2_with fail
   go_ret2;exact⟨rfl,rfl⟩
 by_cases h2:x=237
 · subst h2;rw[show ((UInt8.toNat 237:Nat):Int)=237 from rfl] at c0
   clear hne;go_enter func51,ntmps51
   go_wp2_with fail
   go_ret2;exact⟨rfl,rfl⟩
 by_cases h3:x=221∨x=253
 · rcases t with _|⟨y,t⟩
   · rcases h3 with rfl|rfl
     · rw[show ((UInt8.toNat 221:Nat):Int)=221 from rfl] at c0
       clear hne;go_enter func51,ntmps51
       go_wp2_with fail
       go_ret2;exact⟨rfl,rfl⟩
     · rw[show ((UInt8.toNat 253:Nat):Int)=253 from rfl] at c0
       clear hne;go_enter func51,ntmps51
       go_wp2_with fail
       go_ret2;exact⟨rfl,rfl⟩
   · have c1:=HC.out 1 y rfl;have hn1:(1:Int)<(t.length:Int)+1+1:=om
     by_cases hy:y=203
     · subst hy;rw[show ((UInt8.toNat 203:Nat):Int)=203 from rfl] at c1
       rcases h3 with rfl|rfl
       · rw[show ((UInt8.toNat 221:Nat):Int)=221 from rfl] at c0
         clear hne;go_enter func51,ntmps51
         go_wp2_with fail
         go_ret2;exact⟨by simp[dE],rfl⟩
       · rw[show ((UInt8.toNat 253:Nat):Int)=253 from rfl] at c0
         clear hne;go_enter func51,ntmps51
         go_wp2_with fail
         go_ret2;exact⟨by simp[dE],rfl⟩
     · have hy1:((y.toNat:Int) == 203)=false:=by
        simp only[beq_eq_false_iff_ne,ne_eq];intro e;exact hy (UInt8.toNat_inj.1 (by rw[show (203:UInt8).toNat=203 from rfl];omega))
       have HY:=Hh hy;clear hy;rcases h3 with rfl|rfl
       · rw[show ((UInt8.toNat 221:Nat):Int)=221 from rfl] at c0
         clear hne;go_enter func51,ntmps51
         go_wp2_with fail
         go_ret2;exact⟨by simp[dE,HY.out],rfl⟩
       · rw[show ((UInt8.toNat 253:Nat):Int)=253 from rfl] at c0
         clear hne;go_enter func51,ntmps51
         go_wp2_with fail
         go_ret2;exact⟨by simp[dE,HY.out],rfl⟩
 · have e1:((x.toNat:Int) == 203)=false:=hne 203 h1;have e2:((x.toNat:Int) == 237)=false:=hne 237 h2;have e3:((x.toNat:Int) == 221)=false:=hne 221 (fun e=>h3 (.inl e));have e4:((x.toNat:Int) == 253)=false:=hne 253 (fun e=>h3 (.inr e));have HP:=Hh (show dE (x::t)=(0,0) by simp[dE,h1,h2];intro h;exact absurd h h3)
   clear hne h1 h2 h3;go_enter func51,ntmps51
   go_wp2_with fail
   go_ret2;exact⟨by rw[HP.out];rfl,rfl⟩
theorem Gl (p:Nat) (hp:p<7) (w:World):Calls prog 90 #[.int .i64 p] w fun e w'=>∃ a c,e=.returned (.slice a (fA p) c)∧Below w.heap.size w w':=by
 have key:∀ (x:Int) (n:Nat),(x=0∧n=0)∨(x=1∧n=1)∨(x=2∧n=1)∨(x=3∧n=1)∨(x=4∧n=1)∨(x=5∧n=2)∨(x=6∧n=2)→Calls prog 90 #[.int .i64 x] w fun e w'=>∃ a c,e=.returned (.slice a n c)∧Below w.heap.size w w':=by
  intro x n h;rcases h with⟨rfl,rfl⟩|⟨rfl,rfl⟩|⟨rfl,rfl⟩|⟨rfl,rfl⟩|⟨rfl,rfl⟩|⟨rfl,rfl⟩|⟨rfl,rfl⟩;all_goals
   go_enter func90,ntmps90
   go_wp2_with fail
   go_ret;exact⟨_,_,rfl,bl⟩
 refine key _ _ ?_;unfold fA;rcases (by omega:p=0∨p=1∨p=2∨p=3∨p=4∨p=5∨p=6) with rfl|rfl|rfl|rfl|rfl|rfl|rfl<;>simp
theorem Ba (l:List UInt8) (i:Nat) (c:UInt8) (h:l[i]? = some c) (hs:i<(⟨l.toArray⟩:ByteArray).size):((⟨l.toArray⟩:ByteArray)[i]'hs)=c:=by
 obtain⟨h1,h2⟩:=List.getElem?_eq_some_iff.1 h;rw[←h2];show l.toArray[i]'_=_
 simp
theorem Fx (E:Ent) (a:Option Addr) (n c:Nat) (w:World) (hp:E.page<7) (hl:E.extra.length≤1000):Calls prog 54 #[cP E (.slice a n c)] w fun e w'=>e=.returned (.int .i64 (kW E))∧Below w.heap.size w w':=by
 obtain⟨page,op,mn,args,ex,al⟩:=E;dsimp only at hp hl;have HP:=Hh (fun W=>Gl page hp W);have hpn:fA page≤2:=by unfold fA;split;omega;split<;>omega
 unfold kW;dsimp only;generalize fA page=pn at *;have hsz:(⟨ex.toArray⟩:ByteArray).size=ex.length:=by show ex.toArray.size=_;simp
 show Calls prog 54 #[.agg #[.int .i64 page,.int .u8 op,.string ⟨mn.toArray⟩,.slice a n c,.string ⟨ex.toArray⟩,.bool al]] w _
 go_enter func54,ntmps54
 go_wp2_with fail
 generalize hW0:World.alloc w _=W0;have h0:W0.heap[w.heap.size]? = some (.cells #[.int .i64 page,.int .u8 op,.string ⟨mn.toArray⟩,.slice a n c,.string ⟨ex.toArray⟩,.bool al] 107 (0,0)):=by rw[←hW0];exact aF _ _
 have HB0:=Hh (show Below w.heap.size w W0 by rw[←hW0];exact bl);have H0:=Hh h0;clear hW0 h0;obtain⟨⟨x0,x1,x2,x3,x4,x5⟩,_⟩:=aN H0.out;have hl0:=aA H0.out;go_wp2_with fail
 (with_reducible refine (HP.out _).mono ?_);rintro e w1 ⟨a1,c1,rfl,hb1⟩;have h1:=aB H0.out hb1 hl0;have HB1:=Hh (HB0.out.trans (hb1.mono HB0.out.size));clear x0 x1 x2 x3 x4 x5 hl0 hb1;obtain⟨⟨x0,x1,x2,x3,x4,x5⟩,_⟩:=aN h1;have hl1:=aA h1;clear h1;go_wp2_with fail
 go_loopw [3,4] (fun s i wr=>wr=w1∧∃ j:Nat,j≤ex.length∧i=.int .i64 j∧s=.int .i64 ((pn+1+j+(ex.take j).count 119:Nat):Int)) (fun _ i _=>ex.length - (intOf i).toNat)
 case atStart=>exact⟨rfl,0,Nat.zero_le _,rfl,by simp⟩
 case round =>
  obtain⟨rfl,j,hj,rfl,rfl⟩:=hrel;have hcn:(ex.take j).count 119≤1000:=by have:=List.count_le_length (a:=(119:UInt8)) (l:=ex.take j);rw[List.length_take] at this;omega
  by_cases hlt:j<ex.length
  · obtain⟨x,hx⟩:∃ x,ex[j]? = some x:=⟨_,List.getElem?_eq_getElem hlt⟩;have hsp:j<(⟨ex.toArray⟩:ByteArray).size:=by rw[hsz];exact hlt
    have hix:=Ba ex j x hx hsp;have hcs:(ex.take (j+1)).count 119=(ex.take j).count 119+if x=119 then 1 else 0:=by
     rw[List.take_add_one,hx];simp[List.count_append,List.count_cons]
    have HX:=Hh hx;clear hx;generalize (ex.take j).count 119=q at *;have HCS:=Hh hcs;clear hcs;have hi1:(j:Int)<(ex.length:Int):=om
    have hxl:=x.toNat_lt;by_cases h9:x=119
    · have HH:=Hh h9;have hb:((x.toNat:Int) == 119)=true:=by subst h9;rfl
      clear h9;go_wp2_with fail
      go_roundw
      case rel =>
       refine⟨trivial,j+1,om,by go_num,?_⟩
       rw[HCS.out,if_pos HH.out];congr 1;omega
      case measure=>simp[intOf];omega
    · have HH:=Hh h9;have hb:((x.toNat:Int) == 119)=false:=by simp;intro e;exact h9 (UInt8.toNat_inj.1 (by rw[show (119:UInt8).toNat=119 from rfl];omega))
      clear h9;go_wp2_with fail
      go_roundw
      case rel =>
       refine⟨trivial,j+1,om,by go_num,?_⟩
       rw[HCS.out,if_neg HH.out];congr 1;omega
      case measure=>simp[intOf];omega
  · obtain rfl:j=ex.length:=om
    rw[List.take_length] at hcn;go_wp2_with fail
    go_ret;rw[List.take_length];exact⟨rfl,HB1.out⟩
theorem Id (l:List UInt8) (c:UInt8) (z:Int) (hz:(c.toNat:Int)=z) (w:World) (hl:l.length≤100000):Calls prog 132 #[.string ⟨l.toArray⟩,.int .u8 z] w fun e w'=>e=.returned (.bool (decide (c∈l)))∧w=w':=by
 obtain⟨D,hD⟩:∃ D,decide (c∈l)=D:=⟨_,rfl⟩;rw[hD];have HD:=Hh hD;have HZ:=Hh hz;have hsz:(⟨l.toArray⟩:ByteArray).size=l.length:=by show l.toArray.size=_;simp
 clear hD hz;go_enter func132,ntmps132
 go_wp2_with fail
 go_loopw [5] (fun i wr=>wr=w∧∃ j:Nat,j≤l.length∧i=.int .i64 j∧Hid (c∉l.take j)) (fun i _=>l.length - (intOf i).toNat)
 case atStart=>exact⟨rfl,0,Nat.zero_le _,rfl,Hh sm⟩
 case round =>
  obtain⟨rfl,j,hj,rfl,HN⟩:=hrel;by_cases hlt:j<l.length
  · obtain⟨x,hx⟩:∃ x,l[j]? = some x:=⟨_,List.getElem?_eq_getElem hlt⟩;have hsp:j<(⟨l.toArray⟩:ByteArray).size:=by rw[hsz];exact hlt
    have hix:=Ba l j x hx hsp;have HX:=Hh hx;clear hx;have hi1:(j:Int)<(l.length:Int):=om
    by_cases hc:x=c
    · have hb:((x.toNat:Int) == z)=true:=by rw[hc,HZ.out];simp
      have HC:=Hh hc;clear hc;go_wp2_with fail
      go_ret
      have:D=true:=by rw[←HD.out];simp only[decide_eq_true_eq];rw[←HC.out];exact List.mem_of_getElem? HX.out
      exact⟨by rw[this];rfl,rfl⟩
    · have hb:((x.toNat:Int) == z)=false:=by
       simp only[beq_eq_false_iff_ne,ne_eq];intro e;rw[←HZ.out] at e;exact hc (UInt8.toNat_inj.1 om)
      have HC:=Hh hc;clear hc;go_wp2_with fail
      go_roundw
      case rel =>
       refine⟨trivial,j+1,om,by go_num,Hh ?_⟩
       rw[List.take_add_one,HX.out];simp only[Option.toList_some,List.mem_append,List.mem_singleton];rintro (h|h)
       · exact HN.out h
       · exact HC.out h.symm
      case measure=>simp[intOf];omega
  · obtain rfl:j=l.length:=om
    go_wp2_with fail
    go_ret;have hn:=HN.out;rw[List.take_length] at hn
    have:D=false:=by rw[←HD.out];simp[hn]
    exact⟨by rw[this];rfl,rfl⟩
theorem gV (c:UInt8) (z n:Int) (hz:(c.toNat:Int)=z) (w:World):Calls prog 92 #[.int .u8 z,.int .i64 n] w fun e w'=>e=.returned (.bool (bM c n))∧w=w':=by
 have hne:∀ d:UInt8,c≠d→(z == (d.toNat:Int))=false:=fun d h=>by
  simp only[beq_eq_false_iff_ne,ne_eq];intro e;rw[←hz] at e;exact h (UInt8.toNat_inj.1 om)
 have heq:∀ d:UInt8,c=d→z=(d.toNat:Int):=fun d h=>by rw[←hz,h]
 by_cases h0:c=100
 · have h1:=heq _ h0;have e:bM c n=(decide (-128≤n) && decide (n≤127)):=by unfold bM;rw[if_pos (.inl h0)]
   rw[e];rw[show (((100:UInt8).toNat:Nat):Int)=100 from rfl] at h1
   subst h1;clear hne heq hz e h0;by_cases ha:-128≤n<;>by_cases hb:n≤127
   all_goals
    go_enter func92,ntmps92
    go_wp2_with fail
    go_ret;exact⟨by simp[ha,hb],rfl⟩
 by_cases h9:c=101
 · have h1:=heq _ h9;have e:bM c n=(decide (-128≤n) && decide (n≤127)):=by unfold bM;rw[if_pos (.inr h9)]
   rw[e];rw[show (((101:UInt8).toNat:Nat):Int)=101 from rfl] at h1
   subst h1;clear hne heq hz e h0 h9;by_cases ha:-128≤n<;>by_cases hb:n≤127
   all_goals
    go_enter func92,ntmps92
    go_wp2_with fail
    go_ret;exact⟨by simp[ha,hb],rfl⟩
 by_cases h8:c=110
 · have h1:=heq _ h8;have e:bM c n=(decide (0≤n) && decide (n≤255)):=by unfold bM;rw[if_neg (by simp[h0,h9]),if_pos h8]
   rw[e];rw[show (((110:UInt8).toNat:Nat):Int)=110 from rfl] at h1
   subst h1;clear hne heq hz e h0 h9 h8;by_cases ha:0≤n<;>by_cases hb:n≤255
   all_goals
    go_enter func92,ntmps92
    go_wp2_with fail
    go_ret;exact⟨by simp[ha,hb],rfl⟩
 · have e:bM c n=(decide (0≤n) && decide (n≤65535)):=by unfold bM;rw[if_neg (by simp[h0,h9]),if_neg h8]
   rw[e];have h1:(z == 100)=false:=hne _ h0;have h2:(z == 101)=false:=hne _ h9;have h3:(z == 110)=false:=hne _ h8;clear hne heq hz e h0 h9 h8;by_cases ha:0≤n<;>by_cases hb:n≤65535
   all_goals
    go_enter func92,ntmps92
    go_wp2_with fail
    go_ret;exact⟨by simp[ha,hb],rfl⟩
structure EntAt (E:Ent) (v:Value) (w:World):Prop where
 row:Row w v E.args.length (opc E.args)
theorem EntAt.below {E:Ent} {v:Value} {w w':World} (h:EntAt E v w) (hb:Below w.heap.size w w'):EntAt E v w':=⟨h.row.below hb⟩
def lE (p:Op3):Bool:=decide (p.1=6) || decide (p.1=7)
theorem Ci (E:Ent) (v:Value) (k:Nat) (w:World) (hE:EntAt E v w) (hk:k<E.args.length) (hl:E.args.length≤1000) (hx:E.extra.length≤1000) :
 Calls prog 91 #[cP E v,.int .i64 k] w fun e w'=>e=.returned (.int .u8 (aV E k).toNat)∧Below w.heap.size w w':=by
 obtain⟨o,ho⟩:∃ o,E.args[k]? = some o:=⟨_,List.getElem?_eq_getElem hk⟩;have hlet:aV E k=if o.1=5∧100∈E.extra then 100 else if o.1=10∧101∈E.extra then 101 else if o.1≠6∧o.1≠7 then 0 else if (E.args.drop (k+1)).any lE then 0 else if 110∈E.extra then 110 else if 119∈E.extra then 119 else 0:=by
  unfold aV;rw[List.getD_eq_getElem?_getD,ho];rfl
 obtain⟨L,hL⟩:∃ L,aV E k=L:=⟨_,rfl⟩;rw[hL] at hlet ⊢;have hh:=fun (c:UInt8) z hz W=>Id E.extra c z hz W om;have H100:=Hh (hh 100 100 rfl);have H101:=Hh (hh 101 101 rfl);have H110:=Hh (hh 110 110 rfl);have H119:=Hh (hh 119 119 rfl);obtain⟨page,op,mn,args,ex,al⟩:=E;dsimp only at *;obtain⟨a,c,rfl,hcap,hop⟩:=hE.row.op;obtain⟨g,off,rfl,hg,hcs⟩:=hop (by rintro rfl;exact absurd hk (Nat.not_lt_zero _))
 obtain⟨k0,k1,k2⟩:=hcs k o ho;have HCS:=Hh hcs;have HLET:=Hh hlet;have HHK:=Hh hk;have hi0:(0:Int)≤(k:Int):=om
 have hi1:(k:Int)<(args.length:Int):=om
 clear hcs hlet hL hh hop hE ho;show Calls prog 91 #[.agg #[.int .i64 page,.int .u8 op,.string ⟨mn.toArray⟩,.slice (some ⟨g,off,none⟩) args.length c,.string ⟨ex.toArray⟩,.bool al],.int .i64 k] w _
 obtain⟨x,y,z⟩:=o;dsimp only at k0 k1 k2 HLET;have fin:∀ {L':UInt8} {q:Int} {w':World},(L'.toNat:Int)=q→L=L'→Below w.heap.size w w'→Ending.returned (.int .u8 q)=.returned (.int .u8 (L.toNat:Int))∧Below w.heap.size w w':=fun h1 h2 h3=>⟨by rw[h2,h1],h3⟩
 by_cases h5:x=5
 · subst h5;obtain⟨D,hD⟩:∃ D,decide ((100:UInt8)∈ex)=D:=⟨_,rfl⟩;have H1:=Hh (hD ▸ H100.out);have HD:=Hh hD;clear hD;go_enter func91,ntmps91
   go_wp2_with fail
   (with_reducible refine (H1.out _).mono ?_);rintro e w2 ⟨rfl,rfl⟩;cases D
   · go_wp2_with fail
     go_ret;have hn:¬ ((100:UInt8)∈ex):=by have:=HD.out;simpa using this
     exact fin (L':=0) rfl (by rw[HLET.out];simp[hn]) (bl)
   · go_wp2_with fail
     go_ret;have hn:((100:UInt8)∈ex):=by have:=HD.out;simpa using this
     exact fin (L':=100) rfl (by rw[HLET.out];simp[hn]) (bl)
 by_cases h10:x=10
 · subst h10;obtain⟨D,hD⟩:∃ D,decide ((101:UInt8)∈ex)=D:=⟨_,rfl⟩;have H1:=Hh (hD ▸ H101.out);have HD:=Hh hD;clear hD h5;go_enter func91,ntmps91
   go_wp2_with fail
   (with_reducible refine (H1.out _).mono ?_);rintro e w2 ⟨rfl,rfl⟩;cases D
   · go_wp2_with fail
     go_ret;have hn:¬ ((101:UInt8)∈ex):=by have:=HD.out;simpa using this
     exact fin (L':=0) rfl (by rw[HLET.out];simp[hn]) (bl)
   · go_wp2_with fail
     go_ret;have hn:((101:UInt8)∈ex):=by have:=HD.out;simpa using this
     exact fin (L':=101) rfl (by rw[HLET.out];simp[hn]) (bl)
 have e5:(x == 5)=false:=beq_eq_false_iff_ne.2 h5;have e10:(x == 10)=false:=beq_eq_false_iff_ne.2 h10;by_cases h67:x≠6∧x≠7
 · have e6:(x != 6)=true:=bne_iff_ne.2 h67.1;have e7:(x != 7)=true:=bne_iff_ne.2 h67.2;have hl0:L=0:=by rw[HLET.out,if_neg (fun h=>h5 h.1),if_neg (fun h=>h10 h.1),if_pos h67]
   have HL0:=Hh hl0;clear h5 h10 h67 hl0;go_enter func91,ntmps91
   go_wp2_with fail
   go_ret;exact fin (L':=0) rfl HL0.out (bl)
 have hl1:L=if (args.drop (k+1)).any lE then 0 else if 110∈ex then 110 else if 119∈ex then 119 else 0:=by rw[HLET.out,if_neg (fun h=>h5 h.1),if_neg (fun h=>h10 h.1),if_neg h67]
 have HL1:=Hh hl1;have h67:x=6∨x=7:=om
 clear hl1 h5 h10 e5 e10;obtain⟨D,hD⟩:∃ D,decide ((110:UInt8)∈ex)=D:=⟨_,rfl⟩;obtain⟨D',hD'⟩:∃ D,decide ((119:UInt8)∈ex)=D:=⟨_,rfl⟩;have H1:=Hh (hD ▸ H110.out);have H2:=Hh (hD' ▸ H119.out);have HD:=Hh hD;have HD':=Hh hD';clear hD hD';rcases h67 with rfl|rfl;all_goals
  go_enter func91,ntmps91
  go_wp2_with fail
  generalize hW0:World.alloc (World.alloc w _) _=W0;have h0:W0.heap[w.heap.size]? = some (.cells #[.int .i64 page,.int .u8 op,.string ⟨mn.toArray⟩,.slice (some ⟨g,off,none⟩) args.length c,.string ⟨ex.toArray⟩,.bool al] 107 (0,0)):=by rw[←hW0];exact aE (aF _ _)
  have hB0:Below w.heap.size w W0:=by rw[←hW0];exact bl
  obtain⟨⟨x0,x1,x2,x3,x4,x5⟩,_⟩:=aN h0;have hl0:=aA h0;have HB0:=Hh hB0;clear hW0 h0 hB0 k0 k1 k2;go_loopw [6] (fun i wr=>wr=W0∧∃ j:Nat,k+1+j≤args.length∧i=.int .i64 ((k+1+j:Nat):Int)∧Hid (((args.drop (k+1)).take j).any lE=false)) (fun i _=>args.length - (intOf i).toNat)
  case atStart=>exact⟨rfl,0,by have:=HHK.out;omega,by go_num,Hh sm⟩
  case round =>
   obtain⟨rfl,j,hj,rfl,HN⟩:=hrel;by_cases hlt:k+1+j<args.length
   · obtain⟨⟨p0,p1,p2⟩,hp⟩:∃ p,args[k+1+j]? = some p:=⟨_,List.getElem?_eq_getElem hlt⟩;obtain⟨q0,q1,q2⟩:=HCS.out (k+1+j) _ hp;dsimp only at q0 q1 q2;have HP:=Hh hp;have m0:wr.cell? ⟨g,off+(k+1+j)*3,none⟩=some (.int .i64 p0):=(HB0.out.cell (p:=⟨g,off+(k+1+j)*3,none⟩) hg).trans q0;have hstep:((args.drop (k+1)).take (j+1)).any lE=(((args.drop (k+1)).take j).any lE || lE (p0,p1,p2)):=by
      rw[List.take_add_one,List.getElem?_drop,hp];simp
     have HST:=Hh hstep;have hal:args.length≤1000:=hl;obtain⟨J,hJ⟩:∃ J,k+1+j=J:=⟨_,rfl⟩;rw[hJ] at m0 hlt ⊢;have HJ:=Hh hJ;have hi1:(J:Int)<(args.length:Int):=om
     have hi2:(0:Int)≤(J:Int):=om
     clear hp q0 q1 q2 hstep hJ hj;by_cases hk6:p0=6∨p0=7
     · have hz:L=0:=by
        rw[HL1.out,if_pos];rw[←List.take_append_drop (j+1) (args.drop (k+1)),List.any_append,HST.out]
        have:lE (p0,p1,p2)=true:=by unfold lE;rcases hk6 with h|h<;>simp[h]
        rw[this];simp
       have HZ:=Hh hz;clear hz;rcases hk6 with rfl|rfl;all_goals
        go_wp2_with fail
        go_ret;exact fin (L':=0) rfl HZ.out HB0.out
     · have e6:(p0 == 6)=false:=by simp;omega
       have e7:(p0 == 7)=false:=by simp;omega
       have hz:lE (p0,p1,p2)=false:=by unfold lE;simp;omega
       have HZ:=Hh hz;clear hz hk6;go_wp2_with fail
       go_roundw
       case rel=>exact⟨trivial,j+1,by have:=HJ.out;omega,by have:=HJ.out;go_num,Hh (by rw[HST.out,HN.out,HZ.out];rfl)⟩
       case measure=>simp[intOf];omega
   · have hje:k+1+j=args.length:=om
     rw[hje];have hnn:(args.drop (k+1)).any lE=false:=by
      have:=HN.out
      rwa [List.take_of_length_le (by rw[List.length_drop];omega)] at this
     have HNN:=Hh (show L=if 110∈ex then 110 else if 119∈ex then 119 else 0 by rw[HL1.out,hnn];rfl);clear hje hnn hj;go_wp2_with fail
     (with_reducible refine (H1.out _).mono ?_);rintro e w2 ⟨rfl,rfl⟩;cases D
     · go_wp2_with fail
       (with_reducible refine (H2.out _).mono ?_);rintro e w2 ⟨rfl,rfl⟩;have h1:¬ ((110:UInt8)∈ex):=by have:=HD.out;simpa using this
       have HH1:=Hh h1;clear h1;cases D'
       · go_wp2_with fail
         go_ret;have h2:¬ ((119:UInt8)∈ex):=by have:=HD'.out;simpa using this
         exact fin (L':=0) rfl (by rw[HNN.out,if_neg HH1.out,if_neg h2]) HB0.out
       · go_wp2_with fail
         go_ret;have h2:((119:UInt8)∈ex):=by have:=HD'.out;simpa using this
         exact fin (L':=119) rfl (by rw[HNN.out,if_neg HH1.out,if_pos h2]) HB0.out
     · go_wp2_with fail
       go_ret;have h1:((110:UInt8)∈ex):=by have:=HD.out;simpa using this
       exact fin (L':=110) rfl (by rw[HNN.out,if_pos h1]) HB0.out
theorem Cj (e:Ent) (k:Nat):aV e k=0∨aV e k=100∨aV e k=101∨aV e k=110∨aV e k=119:=by
 unfold aV;dsimp only
 repeat' split
 all_goals simp
theorem Se (l m:List Op3):opc (l++m)=opc l++opc m:=by simp[opc]
theorem Ir {e:Ent} {d n:Int} {j:Nat} {o:Op3} (h:e.args[j]? = some o):(eO e d n)[j]? = some (o.1,o.2.1,qS e d n j):=by
 simp only[eO,List.getElem?_map,List.getElem?_zipIdx,h,Option.map_some,Nat.zero_add]
theorem aAR (d:Int):(d == 0)=decide (d=0):=by by_cases h:d=0<;>simp[h]
theorem Ay {p:Prop} (h:p:=by
 rw[List.take_add_one,HFL.out];show ORow _ _ _ _ (opc (_++[(x,y,_)]))
 rw[HNW.out,Se];have h1:ORow w4 (w.heap.size+1+1+1) (.slice (some ⟨g',0,none⟩) (j+1) cap') (j+1) _:=HOWN4.out;exact dV h1 ((Kb.refl (w.heap.size+1+1) w4).setCell 1 _) om):p:=h
theorem Aw {p:Prop} (h:p:=by
 intro q u hq;rw[bD];match q,hq with
 | 0,hq=>simp at hq;subst hq;simp[go_sem]
 | 1,hq=>simp at hq;subst hq;simp[go_sem]
 | 2,hq=>simp at hq;subst hq;simp[go_sem]):p:=h
theorem Lb {p:Prop} (h:p:=by
 refine (hgrow.block q (by simp[go_sem];have:=aA ho;omega) (fun e=>?_)).trans ((Below.heap_alloc _ _ q (by first|(simp[go_sem];exact aA ho)|exact aA ho)).trans ?_)
 · have:=(HRO.out.own.lt _ e.symm).1;omega
 · exact aD ho om):p:=h
theorem Az {p:Prop} (h:p:=by
 have hrow3:ORow (w2.setCell ⟨bx,2,none⟩ (.int .i64 n)) (w.heap.size+1+1+1) (.slice av j cv) j (opc ((eO ⟨page,op,mn,args,ex,al⟩ d n).take j)):=HRO.out.kbo (Kb.setCell (Kb.refl _ _) 2 _) (fun e=>by have:=HOLT.out _ e;omega);have HR3:=Hh hrow3;clear hrow3;go_wp2_with (at_builtin;refine wpList_append_own _ rfl _ _ 51 rfl (w.heap.size+1+1+1) 144 i0 (.agg #[.int .i64 0,.int .i64 0,.int .i64 0]) 3 24 underlying51 hi hzz0 hzz1 hzz2 rfl dc _ _ _ rfl (HR3.out.own.alloc _) ⟨w2.heap.size,0,none⟩ 1 1 [.int .i64 x,.int .i64 y,.int .i64 n] rfl rfl ?c1 ?c2 ?c3 ?c4 ?c5 ?_)
 case c1 =>
  exact Aw
 case c2=>first|exact⟨rfl,rfl⟩|(intro u hu;simp at hu;rcases hu with rfl|rfl|rfl<;>rfl)|rfl
 case c3=>unfold maxLen;omega
 case c4=>omega
 case c5=>simp[go_sem];omega
 intro v' w4 hown' hgrow _;obtain⟨g',cap',rfl⟩:=ownsRow_succ hown';have hold:∀ (q:Nat) (o:Obj),q<w.heap.size+1+1+1→w2.heap[q]? = some o→w4.heap[q]? = some o:=fun q o hq ho=>by
  exact Lb
 have h40:=hold _ _ om HE2.out;have h41:=hold _ _ om HX2.out;have h42:=hold _ _ om HO2.out;have hb4:Below w.heap.size w w4:=(((HB2.out.setCell (p:=⟨bx,2,none⟩) (by show w.heap.size≤bx;omega) (.int .i64 n)).alloc (by rw[setCell_size];exact HB2.out.size) (.cells #[.int .i64 x,.int .i64 y,.int .i64 n] 144))).grown hgrow (by simp[go_sem];have:=HB2.out.size;omega) (fun q hq=>by have:=(HRO.out.own.lt _ hq).1;omega)
 have HOWN4:=Hh hown';have H40:=Hh h40;have H41:=Hh h41;have H42:=Hh h42;have HB4:=Hh hb4;obtain⟨c0,c1,f0,f1⟩:=aL h42;have hl42:=aA h42;clear hold h40 h41 h42 hb4 hown' hgrow;go_wp2_with fail
 go_roundw
 case rel =>
  refine⟨j+1,.slice (some ⟨g',0,none⟩) (j+1) cap',om,by go_num,by rw[HUSD.out,←HUD.out];simp,by rw[HUSN.out];simp,Hh ?_,Hh ?_,Hh (aD H40.out om),Hh (aD H41.out om),Hh (aG H42.out),Hh (HB4.out.setCell (p:=⟨w.heap.size+1+1,1,none⟩) (by show w.heap.size≤w.heap.size+1+1;omega) _)⟩
  · rw[List.range_succ,List.all_append,HAL.out];simp[HFIT.out]
  · exact Ay
 case measure=>simp[intOf];omega):p:=h
theorem vY {p:Prop} (h:p:=by
 obtain⟨s0,s1,t0,t1⟩:=aL HX2.out;have hlx:=aA HX2.out;go_wp2_with fail
 have hN:lU ⟨page,op,mn,args,ex,al⟩ d n=none:=by
  unfold lU;rw[if_neg];intro h;simp only[Bool.and_eq_true,List.all_eq_true,List.mem_range] at h
  have:=h.1.1 j HLT.out
  rw[HFIT.out] at this;cases this
 generalize hF:World.setCell (World.setCell (World.setCell w2 _ _) _ _) _ _=F;have hb9:Below w.heap.size w F:=by
  rw[←hF];exact ((HB2.out.setCell (p:=⟨bx,2,none⟩) (by show w.heap.size≤bx;omega) _).setCell (p:=⟨w.heap.size+1,0,none⟩) (by show w.heap.size≤w.heap.size+1;omega) _).setCell (p:=⟨w.heap.size+1,1,none⟩) (by show w.heap.size≤w.heap.size+1;omega) _
 have h91:F.heap[w.heap.size+1]? = some (.cells #[.string ⟨#[]⟩,.slice none 0 0] 53 (0,0)):=by rw[←hF];exact aG (aG (aD HX2.out om))
 clear hF;obtain⟨r0,r1,_,_⟩:=aL h91;have hl91:=aA h91;refine bodyPost_ret (v:=iO none (.slice none 0 0)) (by simp[results,results56,go_sem,iO,r0,r1]) rfl ⟨_,by rw[hN],fun i hi=>(by rw[hN] at hi;cases hi),hb9⟩):p:=h
theorem Db (E:Ent) (v:Value) (d n:Int) (w:World) (hE:EntAt E v w) (hl:E.args.length≤1000) (hx:E.extra.length≤1000) :
 Calls prog 56 #[cP E v,.int .i64 d,.int .i64 n] w (oW (lU E d n) w):=by
 obtain⟨i0,hi,hzz0,hzz1,hzz2⟩:=info_parts Tryz.infoOperand;have HLT0:=Hh (fun j W (hb:Below w.heap.size w W) hj=>Ci E v j W (hE.below hb) hj hl hx);have HRW:=Hh (fun W (hb:Below w.heap.size w W)=>(hE.row.below hb).op);obtain⟨page,op,mn,args,ex,al⟩:=E;dsimp only at hl hx;obtain⟨a,c,rfl,_,_⟩:=hE.row;have HLN:=Hh (show ∀ j W,Below w.heap.size w W→j<args.length→∀ z:Int,((aV ⟨page,op,mn,args,ex,al⟩ j).toNat:Int)=z→Calls prog 91 #[.agg #[.int .i64 page,.int .u8 op,.string ⟨mn.toArray⟩,.slice a args.length c,.string ⟨ex.toArray⟩,.bool al],.int .i64 j] W fun e w'=>e=.returned (.int .u8 z)∧Below W.heap.size W w' from fun j W hb hj z hz=>hz ▸ HLT0.out j W hb hj)
 unfold oW;clear HLT0 hE;show Calls prog 56 #[.agg #[.int .i64 page,.int .u8 op,.string ⟨mn.toArray⟩,.slice a args.length c,.string ⟨ex.toArray⟩,.bool al],.int .i64 d,.int .i64 n] w _
 go_enter func56,ntmps56
 go_wp2_with fail
 generalize hW0:World.alloc (World.alloc (World.alloc w _) _) _=W0;have h00:W0.heap[w.heap.size]? = some (.cells #[.int .i64 page,.int .u8 op,.string ⟨mn.toArray⟩,.slice a args.length c,.string ⟨ex.toArray⟩,.bool al] 107 (0,0)):=by rw[←hW0];exact aE (aE (aF _ _))
 have h01:W0.heap[w.heap.size+1]? = some (.cells #[.string ⟨#[]⟩,.slice none 0 0] 53 (0,0)):=by
  rw[←hW0];refine aE ?_;have h1:=aF (w.alloc (.cells #[.int .i64 page,.int .u8 op,.string ⟨mn.toArray⟩,.slice a args.length c,.string ⟨ex.toArray⟩,.bool al] 107)) (.cells #[.string ⟨#[]⟩,.slice none 0 0] 53)
  rwa [World.size_alloc] at h1
 have h02:W0.heap[w.heap.size+1+1]? = some (.cells #[.string ⟨mn.toArray⟩,.slice none 0 0] 53 (0,0)):=by
  rw[←hW0];have h1:=aF ((w.alloc (.cells #[.int .i64 page,.int .u8 op,.string ⟨mn.toArray⟩,.slice a args.length c,.string ⟨ex.toArray⟩,.bool al] 107)).alloc (.cells #[.string ⟨#[]⟩,.slice none 0 0] 53)) (.cells #[.string ⟨mn.toArray⟩,.slice none 0 0] 53);rw[World.size_alloc,World.size_alloc] at h1;exact h1
 have hB0:Below w.heap.size w W0:=by rw[←hW0];exact bl
 have H00:=Hh h00;have H01:=Hh h01;have H02:=Hh h02;have HB0:=Hh hB0;clear hW0 h00 h01 h02 hB0;go_loopw [9,10,11] (fun ud un i wr=>∃ (j:Nat) (vo:Value),j≤args.length∧i=.int .i64 j∧ud=.bool (decide (d=0) || (List.range j).any (nO ⟨page,op,mn,args,ex,al⟩))∧un=.bool (decide (n=0) || (List.range j).any (nN ⟨page,op,mn,args,ex,al⟩))∧Hid ((List.range j).all (oK ⟨page,op,mn,args,ex,al⟩ d n)=true)∧Hid (ORow wr (w.heap.size+1+1+1) vo j (opc ((eO ⟨page,op,mn,args,ex,al⟩ d n).take j)))∧Hid (wr.heap[w.heap.size]? = some (.cells #[.int .i64 page,.int .u8 op,.string ⟨mn.toArray⟩,.slice a args.length c,.string ⟨ex.toArray⟩,.bool al] 107 (0,0)))∧Hid (wr.heap[w.heap.size+1]? = some (.cells #[.string ⟨#[]⟩,.slice none 0 0] 53 (0,0)))∧Hid (wr.heap[w.heap.size+1+1]? = some (.cells #[.string ⟨mn.toArray⟩,vo] 53 (0,0)))∧Hid (Below w.heap.size w wr)) (fun _ _ i _=>args.length - (intOf i).toNat)
 case atStart=>exact⟨0,.slice none 0 0,Nat.zero_le _,rfl,by simp[aAR],by simp[aAR],Hh sm,Hh (ORow.nil _ _),H00,H01,H02,HB0⟩
 case round =>
  obtain⟨j,vo,hj,rfl,rfl,rfl,HAL,HRO,HE0,HX0,HO0,HB⟩:=hrel;obtain⟨ud,hud⟩:∃ ud,(decide (d=0) || (List.range j).any (nO ⟨page,op,mn,args,ex,al⟩))=ud:=⟨_,rfl⟩;obtain⟨un,hun⟩:∃ un,(decide (n=0) || (List.range j).any (nN ⟨page,op,mn,args,ex,al⟩))=un:=⟨_,rfl⟩;rw[hud,hun];have HUD:=Hh hud;have HUN:=Hh hun;clear hud hun;obtain⟨av,cv,rfl⟩:=HRO.out.slice;obtain⟨⟨x0,x1,x2,x3,x4,x5⟩,_⟩:=aN HE0.out;obtain⟨o0,o1,_,_⟩:=aL HO0.out;have hl0:=aA HE0.out;have hl1:=aA HX0.out;have hl2:=aA HO0.out;by_cases hlt:j<args.length
  · obtain⟨⟨x,y,z⟩,ho⟩:∃ x,args[j]? = some x:=⟨_,List.getElem?_eq_getElem hlt⟩;obtain⟨_,_,hv,hcap,hop⟩:=HRW.out wr HB.out;cases hv
    obtain⟨g,off,rfl,hg,hcs⟩:=hop (by rintro rfl;exact absurd hlt (Nat.not_lt_zero _))
    obtain⟨k0,k1,k2⟩:=hcs j _ ho;dsimp only at k0 k1 k2;have hi0:(0:Int)≤(j:Int):=om
    have hi1:(j:Int)<(args.length:Int):=om
    have hfl:(eO ⟨page,op,mn,args,ex,al⟩ d n)[j]?.toList=[(x,y,qS ⟨page,op,mn,args,ex,al⟩ d n j)]:=by rw[Ir (o:=(x,y,z)) ho];rfl
    have HFL:=Hh hfl;have hnum:cX args j=z:=by unfold cX;rw[List.getD_eq_getElem?_getD,ho];rfl
    have hnw:qS ⟨page,op,mn,args,ex,al⟩ d n j=if aV ⟨page,op,mn,args,ex,al⟩ j=100 then d else if aV ⟨page,op,mn,args,ex,al⟩ j=101∨aV ⟨page,op,mn,args,ex,al⟩ j=110∨aV ⟨page,op,mn,args,ex,al⟩ j=119 then n else z:=by rw[←hnum];rfl
    have hfit:oK ⟨page,op,mn,args,ex,al⟩ d n j=(decide (aV ⟨page,op,mn,args,ex,al⟩ j=0) || bM (aV ⟨page,op,mn,args,ex,al⟩ j) (qS ⟨page,op,mn,args,ex,al⟩ d n j)):=rfl;have husd:((List.range (j+1)).any (nO ⟨page,op,mn,args,ex,al⟩))=((List.range j).any (nO ⟨page,op,mn,args,ex,al⟩) || decide (aV ⟨page,op,mn,args,ex,al⟩ j=100)):=by rw[List.range_succ,List.any_append];simp[nO]
    have husn:((List.range (j+1)).any (nN ⟨page,op,mn,args,ex,al⟩))=((List.range j).any (nN ⟨page,op,mn,args,ex,al⟩) || (decide (aV ⟨page,op,mn,args,ex,al⟩ j=101) || decide (aV ⟨page,op,mn,args,ex,al⟩ j=110) || decide (aV ⟨page,op,mn,args,ex,al⟩ j=119))):=by rw[List.range_succ,List.any_append];simp[nN]
    have hln:=fun W hb z hz=>HLN.out j W hb hlt z hz;have HLT:=Hh hlt;rcases Cj ⟨page,op,mn,args,ex,al⟩ j with hL|hL|hL|hL|hL;all_goals
     rw[hL] at hnw hfit hln husd husn;have hln2:=fun W hb=>hln W hb _ rfl;have HLN2:=Hh hln2;have HNW:=Hh hnw;have HUSD:=Hh husd;have HUSN:=Hh husn;have HFIT0:=Hh hfit;clear hln2 hln hnw hfit hL ho hcs hop hnum hfl husd husn
    · go_wp2_with fail
      have hal:Below wr.heap.size wr (wr.alloc (.cells #[.int .i64 x,.int .i64 y,.int .i64 z] 144)):=br.alloc lr _;(with_reducible refine (HLN2.out _ (HB.out.trans (hal.mono HB.out.size))).mono ?_);rintro e w2 ⟨rfl,hb2⟩;have hbx:=aB (aF wr (.cells #[.int .i64 x,.int .i64 y,.int .i64 z] 144)) hb2 sm;have hbw:=hal.trans (hb2.mono hal.size);obtain⟨bx,hbxe⟩:∃ bx,wr.heap.size=bx:=⟨_,rfl⟩;have HE2:=Hh (aB HE0.out hbw hl0);have HX2:=Hh (aB HX0.out hbw hl1);have HO2:=Hh (aB HO0.out hbw hl2);have hro2:=HRO.out.below hbw;have HB2:=Hh (HB.out.trans (hbw.mono HB.out.size));have hownlt:∀ q,(Value.slice av j cv).ownBlock=some q→q<bx:=fun q hq=>by rw[←hbxe];exact (HRO.out.own.lt q hq).2
      rw[hbxe] at hbx hl0 hl1 hl2 ⊢;clear hbxe hbw hb2 hal HRO HE0 HX0 HO0 HB k0 k1 k2 x0 x1 x2 x3 x4 x5 o0 o1 hg hlt;have HRO:=Hh hro2;have HOLT:=Hh hownlt;obtain⟨b0,b1,b2,fb0,fb1,fb2⟩:=bE hbx;obtain⟨o0,o1,_,_⟩:=aL HO2.out;have hlb:=aA hbx;clear hbx hro2 hownlt;have hfit:oK ⟨page,op,mn,args,ex,al⟩ d n j=true:=by rw[HFIT0.out];rfl
      have HFIT:=Hh hfit;clear hfit;have hrow3:ORow w2 (w.heap.size+1+1+1) (.slice av j cv) j (opc ((eO ⟨page,op,mn,args,ex,al⟩ d n).take j)):=HRO.out;have HR3:=Hh hrow3;clear hrow3;go_wp2_with (at_builtin;refine wpList_append_own _ rfl _ _ 51 rfl (w.heap.size+1+1+1) 144 i0 (.agg #[.int .i64 0,.int .i64 0,.int .i64 0]) 3 24 underlying51 hi hzz0 hzz1 hzz2 rfl dc _ _ _ rfl (HR3.out.own.alloc _) ⟨w2.heap.size,0,none⟩ 1 1 [.int .i64 x,.int .i64 y,.int .i64 z] rfl rfl ?c1 ?c2 ?c3 ?c4 ?c5 ?_)
      case c1 =>
       exact Aw
      case c2=>first|exact⟨rfl,rfl⟩|(intro u hu;simp at hu;rcases hu with rfl|rfl|rfl<;>rfl)|rfl
      case c3=>unfold maxLen;omega
      case c4=>omega
      case c5=>simp[go_sem];omega
      intro v' w4 hown' hgrow _;obtain⟨g',cap',rfl⟩:=ownsRow_succ hown';have hold:∀ (q:Nat) (o:Obj),q<w.heap.size+1+1+1→w2.heap[q]? = some o→w4.heap[q]? = some o:=fun q o hq ho=>by
       refine (hgrow.block q (by simp[go_sem];have:=aA ho;omega) (fun e=>?_)).trans ((Below.heap_alloc _ _ q (by first|(simp[go_sem];exact aA ho)|exact aA ho)).trans ?_)
       · have:=(HRO.out.own.lt _ e.symm).1;omega
       · exact ho
      have h40:=hold _ _ om HE2.out;have h41:=hold _ _ om HX2.out;have h42:=hold _ _ om HO2.out;have hb4:Below w.heap.size w w4:=(((HB2.out).alloc (by exact HB2.out.size) (.cells #[.int .i64 x,.int .i64 y,.int .i64 z] 144))).grown hgrow (by simp[go_sem];have:=HB2.out.size;omega) (fun q hq=>by have:=(HRO.out.own.lt _ hq).1;omega)
      have HOWN4:=Hh hown';have H40:=Hh h40;have H41:=Hh h41;have H42:=Hh h42;have HB4:=Hh hb4;obtain⟨c0,c1,f0,f1⟩:=aL h42;have hl42:=aA h42;clear hold h40 h41 h42 hb4 hown' hgrow;go_wp2_with fail
      go_roundw
      case rel =>
       refine⟨j+1,.slice (some ⟨g',0,none⟩) (j+1) cap',om,by go_num,by rw[HUSD.out,←HUD.out];simp,by rw[HUSN.out,←HUN.out];simp,Hh ?_,Hh ?_,Hh (aD H40.out om),Hh (aD H41.out om),Hh (aG H42.out),Hh (HB4.out.setCell (p:=⟨w.heap.size+1+1,1,none⟩) (by show w.heap.size≤w.heap.size+1+1;omega) _)⟩
       · rw[List.range_succ,List.all_append,HAL.out];simp[HFIT.out]
       · exact Ay
      case measure=>simp[intOf];omega
    · go_wp2_with fail
      have hal:Below wr.heap.size wr (wr.alloc (.cells #[.int .i64 x,.int .i64 y,.int .i64 z] 144)):=br.alloc lr _;(with_reducible refine (HLN2.out _ (HB.out.trans (hal.mono HB.out.size))).mono ?_);rintro e w2 ⟨rfl,hb2⟩;have hbx:=aB (aF wr (.cells #[.int .i64 x,.int .i64 y,.int .i64 z] 144)) hb2 sm;have hbw:=hal.trans (hb2.mono hal.size);obtain⟨bx,hbxe⟩:∃ bx,wr.heap.size=bx:=⟨_,rfl⟩;have HE2:=Hh (aB HE0.out hbw hl0);have HX2:=Hh (aB HX0.out hbw hl1);have HO2:=Hh (aB HO0.out hbw hl2);have hro2:=HRO.out.below hbw;have HB2:=Hh (HB.out.trans (hbw.mono HB.out.size));have hownlt:∀ q,(Value.slice av j cv).ownBlock=some q→q<bx:=fun q hq=>by rw[←hbxe];exact (HRO.out.own.lt q hq).2
      rw[hbxe] at hbx hl0 hl1 hl2 ⊢;clear hbxe hbw hb2 hal HRO HE0 HX0 HO0 HB k0 k1 k2 x0 x1 x2 x3 x4 x5 o0 o1 hg hlt;have HRO:=Hh hro2;have HOLT:=Hh hownlt;obtain⟨b0,b1,b2,fb0,fb1,fb2⟩:=bE hbx;obtain⟨o0,o1,_,_⟩:=aL HO2.out;have hlb:=aA hbx;clear hbx hro2 hownlt;have hwn:=fun W=>gV 100 100 d rfl W;obtain⟨V,hV⟩:∃ V,bM 100 d=V:=⟨_,rfl⟩;rw[hV] at hwn;have HWN:=Hh hwn;have hfit:oK ⟨page,op,mn,args,ex,al⟩ d n j=V:=by rw[HFIT0.out,HNW.out,←hV];rfl
      have HFIT:=Hh hfit;clear hfit hV hwn;go_wp2_with fail
      (with_reducible refine (HWN.out _).mono ?_);rintro e w3 ⟨rfl,rfl⟩;cases V
      · exact vY
      · have hrow3:ORow (w2.setCell ⟨bx,2,none⟩ (.int .i64 d)) (w.heap.size+1+1+1) (.slice av j cv) j (opc ((eO ⟨page,op,mn,args,ex,al⟩ d n).take j)):=HRO.out.kbo (Kb.setCell (Kb.refl _ _) 2 _) (fun e=>by have:=HOLT.out _ e;omega);have HR3:=Hh hrow3;clear hrow3;go_wp2_with (at_builtin;refine wpList_append_own _ rfl _ _ 51 rfl (w.heap.size+1+1+1) 144 i0 (.agg #[.int .i64 0,.int .i64 0,.int .i64 0]) 3 24 underlying51 hi hzz0 hzz1 hzz2 rfl dc _ _ _ rfl (HR3.out.own.alloc _) ⟨w2.heap.size,0,none⟩ 1 1 [.int .i64 x,.int .i64 y,.int .i64 d] rfl rfl ?c1 ?c2 ?c3 ?c4 ?c5 ?_)
        case c1 =>
         exact Aw
        case c2=>first|exact⟨rfl,rfl⟩|(intro u hu;simp at hu;rcases hu with rfl|rfl|rfl<;>rfl)|rfl
        case c3=>unfold maxLen;omega
        case c4=>omega
        case c5=>simp[go_sem];omega
        intro v' w4 hown' hgrow _;obtain⟨g',cap',rfl⟩:=ownsRow_succ hown';have hold:∀ (q:Nat) (o:Obj),q<w.heap.size+1+1+1→w2.heap[q]? = some o→w4.heap[q]? = some o:=fun q o hq ho=>by
         exact Lb
        have h40:=hold _ _ om HE2.out;have h41:=hold _ _ om HX2.out;have h42:=hold _ _ om HO2.out;have hb4:Below w.heap.size w w4:=(((HB2.out.setCell (p:=⟨bx,2,none⟩) (by show w.heap.size≤bx;omega) (.int .i64 d)).alloc (by rw[setCell_size];exact HB2.out.size) (.cells #[.int .i64 x,.int .i64 y,.int .i64 d] 144))).grown hgrow (by simp[go_sem];have:=HB2.out.size;omega) (fun q hq=>by have:=(HRO.out.own.lt _ hq).1;omega)
        have HOWN4:=Hh hown';have H40:=Hh h40;have H41:=Hh h41;have H42:=Hh h42;have HB4:=Hh hb4;obtain⟨c0,c1,f0,f1⟩:=aL h42;have hl42:=aA h42;clear hold h40 h41 h42 hb4 hown' hgrow;go_wp2_with fail
        go_roundw
        case rel =>
         refine⟨j+1,.slice (some ⟨g',0,none⟩) (j+1) cap',om,by go_num,by rw[HUSD.out];simp,by rw[HUSN.out,←HUN.out];simp,Hh ?_,Hh ?_,Hh (aD H40.out om),Hh (aD H41.out om),Hh (aG H42.out),Hh (HB4.out.setCell (p:=⟨w.heap.size+1+1,1,none⟩) (by show w.heap.size≤w.heap.size+1+1;omega) _)⟩
         · rw[List.range_succ,List.all_append,HAL.out];simp[HFIT.out]
         · exact Ay
        case measure=>simp[intOf];omega
    · go_wp2_with fail
      have hal:Below wr.heap.size wr (wr.alloc (.cells #[.int .i64 x,.int .i64 y,.int .i64 z] 144)):=br.alloc lr _;(with_reducible refine (HLN2.out _ (HB.out.trans (hal.mono HB.out.size))).mono ?_);rintro e w2 ⟨rfl,hb2⟩;have hbx:=aB (aF wr (.cells #[.int .i64 x,.int .i64 y,.int .i64 z] 144)) hb2 sm;have hbw:=hal.trans (hb2.mono hal.size);obtain⟨bx,hbxe⟩:∃ bx,wr.heap.size=bx:=⟨_,rfl⟩;have HE2:=Hh (aB HE0.out hbw hl0);have HX2:=Hh (aB HX0.out hbw hl1);have HO2:=Hh (aB HO0.out hbw hl2);have hro2:=HRO.out.below hbw;have HB2:=Hh (HB.out.trans (hbw.mono HB.out.size));have hownlt:∀ q,(Value.slice av j cv).ownBlock=some q→q<bx:=fun q hq=>by rw[←hbxe];exact (HRO.out.own.lt q hq).2
      rw[hbxe] at hbx hl0 hl1 hl2 ⊢;clear hbxe hbw hb2 hal HRO HE0 HX0 HO0 HB k0 k1 k2 x0 x1 x2 x3 x4 x5 o0 o1 hg hlt;have HRO:=Hh hro2;have HOLT:=Hh hownlt;obtain⟨b0,b1,b2,fb0,fb1,fb2⟩:=bE hbx;obtain⟨o0,o1,_,_⟩:=aL HO2.out;have hlb:=aA hbx;clear hbx hro2 hownlt;have hwn:=fun W=>gV 101 101 n rfl W;obtain⟨V,hV⟩:∃ V,bM 101 n=V:=⟨_,rfl⟩;rw[hV] at hwn;have HWN:=Hh hwn;have hfit:oK ⟨page,op,mn,args,ex,al⟩ d n j=V:=by rw[HFIT0.out,HNW.out,←hV];rfl
      have HFIT:=Hh hfit;clear hfit hV hwn;go_wp2_with fail
      (with_reducible refine (HWN.out _).mono ?_);rintro e w3 ⟨rfl,rfl⟩;cases V
      · exact vY
      · exact Az
    · go_wp2_with fail
      have hal:Below wr.heap.size wr (wr.alloc (.cells #[.int .i64 x,.int .i64 y,.int .i64 z] 144)):=br.alloc lr _;(with_reducible refine (HLN2.out _ (HB.out.trans (hal.mono HB.out.size))).mono ?_);rintro e w2 ⟨rfl,hb2⟩;have hbx:=aB (aF wr (.cells #[.int .i64 x,.int .i64 y,.int .i64 z] 144)) hb2 sm;have hbw:=hal.trans (hb2.mono hal.size);obtain⟨bx,hbxe⟩:∃ bx,wr.heap.size=bx:=⟨_,rfl⟩;have HE2:=Hh (aB HE0.out hbw hl0);have HX2:=Hh (aB HX0.out hbw hl1);have HO2:=Hh (aB HO0.out hbw hl2);have hro2:=HRO.out.below hbw;have HB2:=Hh (HB.out.trans (hbw.mono HB.out.size));have hownlt:∀ q,(Value.slice av j cv).ownBlock=some q→q<bx:=fun q hq=>by rw[←hbxe];exact (HRO.out.own.lt q hq).2
      rw[hbxe] at hbx hl0 hl1 hl2 ⊢;clear hbxe hbw hb2 hal HRO HE0 HX0 HO0 HB k0 k1 k2 x0 x1 x2 x3 x4 x5 o0 o1 hg hlt;have HRO:=Hh hro2;have HOLT:=Hh hownlt;obtain⟨b0,b1,b2,fb0,fb1,fb2⟩:=bE hbx;obtain⟨o0,o1,_,_⟩:=aL HO2.out;have hlb:=aA hbx;clear hbx hro2 hownlt;have hwn:=fun W=>gV 110 110 n rfl W;obtain⟨V,hV⟩:∃ V,bM 110 n=V:=⟨_,rfl⟩;rw[hV] at hwn;have HWN:=Hh hwn;have hfit:oK ⟨page,op,mn,args,ex,al⟩ d n j=V:=by rw[HFIT0.out,HNW.out,←hV];rfl
      have HFIT:=Hh hfit;clear hfit hV hwn;go_wp2_with fail
      (with_reducible refine (HWN.out _).mono ?_);rintro e w3 ⟨rfl,rfl⟩;cases V
      · exact vY
      · exact Az
    · go_wp2_with fail
      have hal:Below wr.heap.size wr (wr.alloc (.cells #[.int .i64 x,.int .i64 y,.int .i64 z] 144)):=br.alloc lr _;(with_reducible refine (HLN2.out _ (HB.out.trans (hal.mono HB.out.size))).mono ?_);rintro e w2 ⟨rfl,hb2⟩;have hbx:=aB (aF wr (.cells #[.int .i64 x,.int .i64 y,.int .i64 z] 144)) hb2 sm;have hbw:=hal.trans (hb2.mono hal.size);obtain⟨bx,hbxe⟩:∃ bx,wr.heap.size=bx:=⟨_,rfl⟩;have HE2:=Hh (aB HE0.out hbw hl0);have HX2:=Hh (aB HX0.out hbw hl1);have HO2:=Hh (aB HO0.out hbw hl2);have hro2:=HRO.out.below hbw;have HB2:=Hh (HB.out.trans (hbw.mono HB.out.size));have hownlt:∀ q,(Value.slice av j cv).ownBlock=some q→q<bx:=fun q hq=>by rw[←hbxe];exact (HRO.out.own.lt q hq).2
      rw[hbxe] at hbx hl0 hl1 hl2 ⊢;clear hbxe hbw hb2 hal HRO HE0 HX0 HO0 HB k0 k1 k2 x0 x1 x2 x3 x4 x5 o0 o1 hg hlt;have HRO:=Hh hro2;have HOLT:=Hh hownlt;obtain⟨b0,b1,b2,fb0,fb1,fb2⟩:=bE hbx;obtain⟨o0,o1,_,_⟩:=aL HO2.out;have hlb:=aA hbx;clear hbx hro2 hownlt;have hwn:=fun W=>gV 119 119 n rfl W;obtain⟨V,hV⟩:∃ V,bM 119 n=V:=⟨_,rfl⟩;rw[hV] at hwn;have HWN:=Hh hwn;have hfit:oK ⟨page,op,mn,args,ex,al⟩ d n j=V:=by rw[HFIT0.out,HNW.out,←hV];rfl
      have HFIT:=Hh hfit;clear hfit hV hwn;go_wp2_with fail
      (with_reducible refine (HWN.out _).mono ?_);rintro e w3 ⟨rfl,rfl⟩;cases V
      · exact vY
      · exact Az
  · obtain rfl:j=args.length:=om
    have htk:(eO ⟨page,op,mn,args,ex,al⟩ d n).take args.length=eO ⟨page,op,mn,args,ex,al⟩ d n:=List.take_of_length_le (by simp[eO]);have hro2:=HRO.out;rw[htk] at hro2;have HRO2:=Hh hro2;clear hro2;have hres:lU ⟨page,op,mn,args,ex,al⟩ d n=if ud && un then some (mn,eO ⟨page,op,mn,args,ex,al⟩ d n) else none:=by
     unfold lU;dsimp only;rw[HAL.out,HUD.out,HUN.out];simp
    have HRES:=Hh hres;have hfl:(eO ⟨page,op,mn,args,ex,al⟩ d n).length=args.length:=by simp[eO]
    have HFLN:=Hh hfl;obtain⟨r0,r1,f0,f1⟩:=aL HX0.out;clear htk hres hfl;cases ud<;>cases un
    case true.true =>
     go_wp2_with fail
     generalize hF:World.setCell (World.setCell wr _ _) _ _=F;have h91:F.heap[w.heap.size+1]? = some (.cells #[.string ⟨mn.toArray⟩,.slice av args.length cv] 53 (0,0)):=by rw[←hF];exact aG (aG HX0.out)
     have hro9:ORow F (w.heap.size+1+1+1) (.slice av args.length cv) args.length (opc (eO ⟨page,op,mn,args,ex,al⟩ d n)):=by rw[←hF];exact dV HRO2.out (Kb.setCell (Kb.setCell (Kb.refl (w.heap.size+1) _) _ _) _ _) om
     have hb9:Below w.heap.size w F:=by rw[←hF];exact (HB.out.setCell (p:=⟨w.heap.size+1,0,none⟩) (by show w.heap.size≤w.heap.size+1;omega) _).setCell (p:=⟨w.heap.size+1,1,none⟩) (by show w.heap.size≤w.heap.size+1;omega) _
     clear hF;obtain⟨s0,s1,_,_⟩:=aL h91;have hl91:=aA h91;have hR:lU ⟨page,op,mn,args,ex,al⟩ d n=some (mn,eO ⟨page,op,mn,args,ex,al⟩ d n):=by rw[HRES.out];rfl
     refine bodyPost_ret (v:=iO (some (mn,eO ⟨page,op,mn,args,ex,al⟩ d n)) (.slice av args.length cv)) (by simp[results,results56,go_sem,iO,s0,s1]) rfl ⟨.slice av args.length cv,by rw[hR],fun i hi=>?_,hb9⟩
     rw[hR] at hi;cases hi
     show ORow _ _ _ (eO _ d n).length _
     rw[HFLN.out];exact hro9.mono om
    all_goals
     go_wp2_with fail
     generalize hF:World.setCell (World.setCell wr _ _) _ _=F;have h91:F.heap[w.heap.size+1]? = some (.cells #[.string ⟨#[]⟩,.slice none 0 0] 53 (0,0)):=by rw[←hF];exact aG (aG HX0.out)
     have hb9:Below w.heap.size w F:=by rw[←hF];exact (HB.out.setCell (p:=⟨w.heap.size+1,0,none⟩) (by show w.heap.size≤w.heap.size+1;omega) _).setCell (p:=⟨w.heap.size+1,1,none⟩) (by show w.heap.size≤w.heap.size+1;omega) _
     clear hF;obtain⟨s0,s1,_,_⟩:=aL h91;have hl91:=aA h91;have hR:lU ⟨page,op,mn,args,ex,al⟩ d n=none:=by rw[HRES.out];rfl
     refine bodyPost_ret (v:=iO none (.slice none 0 0)) (by simp[results,results56,go_sem,iO,s0,s1]) rfl ⟨_,by rw[hR],fun i hi=>(by rw[hR] at hi;cases hi),hb9⟩
end Go.Proofs.YtoigglljnklhlaaGreatDoor
