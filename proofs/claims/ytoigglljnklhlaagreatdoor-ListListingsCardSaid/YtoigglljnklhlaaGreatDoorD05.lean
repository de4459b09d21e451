/- Joined. -/
import Derived.Test.YtoigglljnklhlaaGreatDoorD04
set_option maxHeartbeats 8000000
set_option maxRecDepth 100000
namespace Go.Proofs.YtoigglljnklhlaaGreatDoor
open Go.RowKit Go.Sort
def eR (w:World) (v:Value) (m:Nat) (news:List Value):Prop:=(m=0∧v=.slice none 0 0)∨∃ ad c,v=.slice (some ad) m c∧∀ j u,news[j]? = some u→w.cell? (ad.add j)=some u
theorem aR {P:Program} {w:World} {ops:Array Oper} {o:Oper} {a:Act} {K:Act→World→Prop} {Q:Exit→Act→World→Prop} {E:Prop} (hgd:o.guard=none) (s x:Operand) (t:TypeId)
 (ho:o.op=.call { callee:=.builtin .append,args:=#[s,x],argTypes:=#[t,t] })
 (base:Nat) (e:TypeId) (i:TypeInfo) (z:Value) (size bytes:Nat) (ht:P.underlying t=some (.slice e)) (hi:P.info? e=some i) (hz:i.zero=some z)
 (hsize:i.size=size) (hby:i.bytes=bytes) (hzs:z.cells.size=size) (hsz:0<size)
 (v:Value) (n:Nat) (xs:List Value) (hs:a.eval s=v) (hown:w.ownsRow base e size v n xs)
 (v2:Value) (m:Nat) (news:List Value) (hx:a.eval x=v2) (hsrc:eR w v2 m news) (hl:news.length=m*size) (h1:∀ u∈news,u.oneCell'=true)
 (h63:n+m≤maxLen) (hbytes:(n+m)*bytes≤140737488355328) (hbase:base≤w.heap.size)
 (h:∀ v' w',w'.ownsRow base e size v' (n+m) (xs++news)→w.grownBy w' v.ownBlock→(v'=.slice none 0 0↔v=.slice none 0 0∧m=0)→K (a.put o.dst v') w') :
 if Region.wanted o (yielded ops a.tmps)=true then Oper.wp P o a w K Q else E:=by
 have hw:Region.wanted o (yielded ops a.tmps)=true:=by simp[Region.wanted,hgd]
 rw[if_pos hw];rcases hsrc with⟨rfl,rfl⟩|⟨ad,c,rfl,hc⟩
 · have hn:news=[]:=List.eq_nil_of_length_eq_zero (by simpa using hl);subst hn;have hrun:=run_append_owned_none (P:=P) (w:=w) base t o.type e i size ht hi v n xs hown;unfold Oper.wp;simp[execOp,ho,resolve,invoke,builtin,hs,hx,hrun,Result.andThen]
   exact h v w (by simpa using hown) (World.grownBy.refl w _) sm
 · exact wp_append_own w s x t ho base e i z size bytes ht hi hz hsize hby hzs hsz v n xs hs hown ad m c news hx hl hc h1 h63 hbytes hbase h
end Go.Proofs.YtoigglljnklhlaaGreatDoor
namespace Go.Proofs.YtoigglljnklhlaaGreatDoor
open Go.RowKit Go.Sort
open Go.Proofs.Tryz
def pfx (page:Nat):List UInt8:=([[],[203],[237],[221],[253],[221,203],[253,203]]:List (List UInt8)).getD page []
theorem wF:∀ p:Fin 7,(pfx p.val).length≤2:=dc
theorem Rv:∀ p:Fin 7,∀ q:Fin 7,pfx p.val=pfx q.val→p=q:=dc
theorem Me {w:World} (x:UInt8):Row (w.alloc (.cells #[.int .u8 x.toNat] 5)) (.slice (some ⟨w.heap.size,0,none⟩) 1 1) [x].length (aT [x]) :=
 ⟨_,1,rfl,Nat.le_refl _,fun _=>⟨_,0,rfl,by simp,fun j hj=>by
  have:j=0:=by simp[aT] at hj;omega
  subst this;simp[go_sem,aT]⟩⟩
theorem Sa {w:World} {base g:Nat} {T:TypeId} {u:Value} (h:w.heap[g]? = some (.cells #[u] T (0,0))) (hb:base≤g):w.ownsRow base T 1 (.slice (some ⟨g,0,none⟩) 1 1) 1 [u] :=
 ⟨by simp,.inr ⟨g,1,#[u],rfl,hb,h,by simp,by simp[maxLen],by simp,by simp⟩⟩
theorem Vn (p:Int) (x:UInt8) (hp:p=1∧x=203∨p=2∧x=237∨p=3∧x=221∨p=4∧x=253) (w:World):Calls prog 225 #[.int .i64 p] w fun e w'=>e=.returned (.slice (some ⟨w.heap.size,0,none⟩) 1 1)∧w'=w.alloc (.cells #[.int .u8 x.toNat] 5):=by
 rcases hp with⟨rfl,rfl⟩|⟨rfl,rfl⟩|⟨rfl,rfl⟩|⟨rfl,rfl⟩;all_goals
  go_enter func225,ntmps225
  go_wp2_with fail
  go_ret;exact⟨rfl,rfl⟩
theorem aAu (w:World):Calls prog 225 #[.int .i64 0] w fun e w'=>e=.returned (.slice none 0 0)∧w'=w:=by
 go_enter func225,ntmps225
 go_wp2_with fail
 go_ret;exact⟨rfl,rfl⟩
theorem Vm (p q:Int) (x:UInt8) (hq:p - 5+3=q) (h6:p=5∧x=221∨p=6∧x=253) (w:World):Calls prog 225 #[.int .i64 p] w fun e w'=>∃ v,e=.returned v∧Row w' v [x,203].length (aT [x,203])∧Below w.heap.size w w':=by
 obtain⟨i0,hi,hz0,hz1,hz2⟩:=info_parts Tryz.infoByte;have HC:=Hh (fun W=>Vn q x (by rcases h6 with⟨rfl,rfl⟩|⟨rfl,rfl⟩;exact .inr (.inr (.inl ⟨om,rfl⟩));exact .inr (.inr (.inr ⟨om,rfl⟩))) W)
 have hq2:q=3∨q=4:=om
 have hn1:(p == 1)=false:=by simp;omega
 have hn2:(p == 2)=false:=by simp;omega
 have hn3:(p == 3)=false:=by simp;omega
 have hn4:(p == 4)=false:=by simp;omega
 have hn5:(p == 5)=true∨((p == 5)=false∧(p == 6)=true):=by simp;omega
 have hp1:0≤p∧p≤10:=om
 obtain⟨hp1,hp2⟩:=hp1;clear h6 hq2;rcases hn5 with hn5|⟨hn5,hn6⟩;all_goals
  go_enter func225,ntmps225
  go_wp2_with fail
  (with_reducible refine (HC.out _).mono ?_);rintro e w1 ⟨rfl,rfl⟩;go_wp2_with (at_builtin;refine wpList_append_own _ rfl _ _ 33 rfl w.heap.size 5 i0 (.int .u8 0) 1 1 underlying33 hi hz0 hz1 hz2 rfl dc _ _ _ rfl (Sa (u:=.int .u8 x.toNat) (aE (aF _ _)) lr) ⟨w.heap.size+1,0,none⟩ 1 1 [.int .u8 203] rfl rfl ?c1 ?c2 ?c3 ?c4 ?c5 ?_)
  case c1 =>
   intro q u hq;rw[bD];match q,hq with
   | 0,hq=>simp at hq;subst hq;simp[go_sem]
  case c2=>first|exact⟨rfl,rfl⟩|(intro u hu;simp at hu;subst hu;rfl)|rfl
  case c3=>unfold maxLen;omega
  case c4=>omega
  case c5=>(first|omega|(simp[go_sem];done)|(simp[go_sem];omega))
  intro v' w1 hown' hgrow hiff';have hb':Below w.heap.size w w1:=(show Below w.heap.size w ((w.alloc _).alloc _) from bl).grown hgrow (by simp[go_sem];omega) (by
   intro q hq;cases hq
   exact Nat.le_refl _)
  have HO:=Hh hown';have HB:=Hh hb';clear hown' hgrow hiff' hb';go_wp2_with fail
  go_ret;exact⟨_,rfl,Row.of_owns HO.out,HB.out⟩
theorem wE (p:Nat) (hp:p<7) (w:World):Calls prog 225 #[.int .i64 p] w fun e w'=>∃ v,e=.returned v∧Row w' v (pfx p).length (aT (pfx p))∧Below w.heap.size w w':=by
 have h1:∀ (p:Int) (x:UInt8),(p=1∧x=203∨p=2∧x=237∨p=3∧x=221∨p=4∧x=253)→Calls prog 225 #[.int .i64 p] w fun e w'=>∃ v,e=.returned v∧Row w' v [x].length (aT [x])∧Below w.heap.size w w':=fun p x h=>(Vn p x h w).mono fun e w' ⟨he,hw⟩=>⟨_,he,hw ▸ Me x,by rw[hw];(repeat (first|exact Below.refl _ _|refine Below.drew ?_|(refine cD ?_ (by first|omega|(simp[go_sem];done)|(simp[go_sem];omega)) _)|(refine Below.alloc ?_ (by first|omega|(simp[go_sem];done)|(simp[go_sem];omega)) _)|(refine Below.setCell ?_ (by first|omega|(simp[go_sem];done)|(simp[go_sem];omega)) _)))⟩
 rcases (by omega:p=0∨p=1∨p=2∨p=3∨p=4∨p=5∨p=6) with rfl|rfl|rfl|rfl|rfl|rfl|rfl
 · exact (aAu w).mono fun e w' ⟨he,hw⟩=>⟨_,he,by rw[hw];exact Row.nil _,by rw[hw];exact Below.refl _ _⟩
 · exact h1 1 203 (.inl ⟨rfl,rfl⟩)
 · exact h1 2 237 (.inr (.inl ⟨rfl,rfl⟩))
 · exact h1 3 221 (.inr (.inr (.inl ⟨rfl,rfl⟩)))
 · exact h1 4 253 (.inr (.inr (.inr ⟨rfl,rfl⟩)))
 · exact Vm 5 3 221 rfl (.inl ⟨rfl,rfl⟩) w
 · exact Vm 6 4 253 rfl (.inr ⟨rfl,rfl⟩) w
theorem Br (page:Nat) (hp:page<7) (v:Value) (w:World) (hv:Row w v (pfx page).length (aT (pfx page))):Calls prog 193 #[v] w fun e w'=>e=.returned (.tuple #[.int .i64 page,.bool true])∧Below w.heap.size w w':=by
 have HV:=Hh hv;clear hv;go_enter func193,ntmps193
 go_wp2_with fail
 go_loopw [4,5] (fun _ i wr=>∃ j:Nat,j≤page∧i=.int .i64 j∧Hid (Below w.heap.size w wr)) (fun _ i _=>page+1 - (intOf i).toNat)
 case atStart=>exact⟨0,Nat.zero_le _,rfl,Hh br⟩
 case round =>
  obtain⟨j,hj,rfl,HB⟩:=hrel;have h7:(j:Int)<7:=om
  go_wp2_with fail
  (with_reducible refine (wE j om _).mono ?_);rintro e w1 ⟨v1,rfl,hr1,hb1⟩;have HR1:=Hh hr1;have HB1:=Hh (HB.out.trans (hb1.mono HB.out.size));clear hr1 hb1;go_wp2_with fail
  have hl1:(pfx j).length≤2:=wF ⟨j,om⟩
  have hl2:(pfx page).length≤2:=wF ⟨page,hp⟩;by_cases he:j=page
  · subst he;have hd:decide (pfx j=pfx j)=true:=by simp
    have HE:=Hh (fun W (hb:Below w.heap.size w W) (hr:Row W v1 (pfx j).length (aT (pfx j)))=>sX v1 v (pfx j) (pfx j) W hr (HV.out.below hb) om om);rw[hd] at HE;(with_reducible refine (HE.out _ HB1.out HR1.out).mono ?_);rintro e w2 ⟨rfl,hb2⟩;have HB2:=Hh (HB1.out.trans (hb2.mono HB1.out.size));clear hb2;go_wp2_with fail
    go_ret2;exact⟨rfl,HB2.out⟩
  · have hd:decide (pfx j=pfx page)=false:=decide_eq_false (fun e=>he (by have:=Rv ⟨j,om⟩ ⟨page,hp⟩ e;exact congrArg Fin.val this));have HE:=Hh (fun W (hb:Below w.heap.size w W) (hr:Row W v1 (pfx j).length (aT (pfx j)))=>sX v1 v (pfx j) (pfx page) W hr (HV.out.below hb) om om);rw[hd] at HE;(with_reducible refine (HE.out _ HB1.out HR1.out).mono ?_);rintro e w2 ⟨rfl,hb2⟩;have HB2:=Hh (HB1.out.trans (hb2.mono HB1.out.size));clear hb2;go_wp2_with fail
    go_roundw
    case rel=>exact⟨j+1,om,by go_num,HB2⟩
    case measure=>simp[intOf];omega
end Go.Proofs.YtoigglljnklhlaaGreatDoor
namespace Go.Proofs.YtoigglljnklhlaaGreatDoor
open Go.RowKit Go.Sort
theorem Jl (l:List Op3) (k:Nat):(jJ l k).length=l.length:=by unfold jJ;split<;>simp
theorem aIe (l:List Op3) (k j:Nat):(jJ l k).getD j (0,0,0)=if j=k then ((l.getD j (0,0,0)).1,(l.getD j (0,0,0)).2.1,0) else l.getD j (0,0,0):=by
 unfold jJ;simp only[List.getD];by_cases hj:j=k
 · subst hj;rw[if_pos rfl];cases h:l[j]? with
   | none=>simp[h]
   | some o =>
     have:=(List.getElem?_eq_some_iff.1 h).1
     simp[this]
 · rw[if_neg hj];cases h:l[k]? with
   | none=>rfl
   | some o=>rw[List.getElem?_set_ne (fun e=>hj e.symm)]
theorem aHa (l:List Op3) (k j:Nat):cX (jJ l k) j=if j=k then 0 else cX l j:=by
 unfold cX;rw[aIe];split<;>rfl
theorem aJF {a b:List Op3} (h:a.length=b.length):a=b↔∀ j,j<a.length→a.getD j (0,0,0)=b.getD j (0,0,0):=by
 constructor
 · rintro rfl _ _;rfl
 · intro hh;apply List.ext_getElem h
   intro j h1 h2
   have:=hh j h1
   simpa[List.getD,List.getElem?_eq_getElem h1,List.getElem?_eq_getElem h2] using this
theorem aJj {a b:List Op3} (h:kB a=kB b) (j:Nat):(a.getD j (0,0,0)).1=(b.getD j (0,0,0)).1∧(a.getD j (0,0,0)).2.1=(b.getD j (0,0,0)).2.1:=by
 have h2:(kB a)[j]? = (kB b)[j]? := by rw[h]
 unfold kB at h2;rw[List.getElem?_map,List.getElem?_map] at h2;simp only[List.getD];cases ha:a[j]? with
 | none=>cases hb:b[j]? with
   | none=>exact⟨rfl,rfl⟩
   | some y=>rw[ha,hb] at h2;simp at h2
 | some x=>cases hb:b[j]? with
   | none=>rw[ha,hb] at h2;simp at h2
   | some y=>rw[ha,hb] at h2;simp at h2;exact h2
theorem Fy {a b:List Op3} (h:kB a=kB b):a.length=b.length:=by
 have:=congrArg List.length h
 simpa[kB] using this
theorem aJc {e:Ent} {x:Nat × UInt8} (h:fM e=some x):x.2≠0:=by
 unfold fM at h;split at h
 · obtain⟨k,_,rfl⟩:=Option.map_eq_some_iff.1 h;exact (by decide:(101:UInt8)≠0)
 · split at h
   · obtain⟨k,_,rfl⟩:=Option.map_eq_some_iff.1 h;exact (by decide:(110:UInt8)≠0)
   · split at h
     · obtain⟨k,_,rfl⟩:=Option.map_eq_some_iff.1 h;exact (by decide:(119:UInt8)≠0)
     · cases h
theorem aJX {x y:Op3} (h1:x.1=y.1) (h2:x.2.1=y.2.1) (h3:x.2.2=y.2.2):x=y:=by
 obtain⟨a,b,c⟩:=x;obtain⟨d,e,f⟩:=y;simp_all
theorem zS {p op:Nat} {e:Ent} (h:qH p op e=true) :
 (∀ k,k<4→k<e.args.length→aV e k=kH e k∧(aV e k≠0→cX e.args k=0))∧e.args.length≤3∧(∀ k,fJ e=some k→k<e.args.length)∧(∀ x,fM e=some x→x.1<e.args.length∧fJ e≠some x.1):=by
 unfold qH at h;simp only[Bool.and_eq_true,List.all_eq_true,decide_eq_true_eq,List.mem_range,Option.all_eq_true] at h;obtain⟨⟨⟨⟨⟨⟨⟨⟨⟨h1,h2⟩,h3⟩,h4⟩,_⟩,_⟩,_⟩,_⟩,_⟩,_⟩:=h;exact⟨fun k hk=>h1 k hk,h2,h3,h4⟩
theorem aJu {p op:Nat} {e:Ent} (c:aY) (h:qH p op e=true):aHn e c=(lR e c).isSome:=by
 obtain⟨hL,h3,hd,hn⟩:=zS h;unfold aHn lR;cases hs:cT e c with
 | false=>simp
 | true =>
   rw[if_neg sm,Bool.true_and];unfold cT at hs;simp only[Bool.and_eq_true,decide_eq_true_eq] at hs;have hlen:=Fy hs.2;have hsh:=aJj hs.2;obtain⟨l,hl⟩:∃ l,c.2=l:=⟨_,rfl⟩;rw[hl] at hlen hsh ⊢;have hZ:∀ Z:List Op3,Z.length=l.length→(∀ j,(Z.getD j (0,0,0)).1=(l.getD j (0,0,0)).1∧(Z.getD j (0,0,0)).2.1=(l.getD j (0,0,0)).2.1)→(Z=e.args↔∀ j,j<l.length→cX Z j=cX e.args j):=fun Z hz hg=>by
    rw[aJF (hz.trans hlen.symm),hz];constructor
    · intro q j hj;unfold cX;rw[q j hj]
    · intro q j hj;exact aJX ((hg j).1.trans (hsh j).1.symm) ((hg j).2.trans (hsh j).2.symm) (q j hj)
   have hzk:∀ (m:List Op3) k j,((jJ m k).getD j (0,0,0)).1=(m.getD j (0,0,0)).1∧((jJ m k).getD j (0,0,0)).2.1=(m.getD j (0,0,0)).2.1:=fun m k j=>by rw[aIe];split<;>exact⟨rfl,rfl⟩
   have fin:∀ {a b:Bool},(a=true↔b=true)→a=b:=fun {a b} h=>Bool.eq_iff_iff.2 h;apply fin
   rw[List.all_eq_true];simp only[List.mem_range];have hlet:∀ j,j<l.length→aV e j=kH e j∧(aV e j≠0→cX e.args j=0):=fun j hj=>hL j om om;unfold We;cases hdi:fJ e with
   | none =>
     unfold Vp;cases hni:fM e with
     | none =>
       simp only[Bool.true_and,decide_eq_true_eq];have hz:=hZ l rfl (fun j=>⟨rfl,rfl⟩);constructor
       · intro q;rw[if_pos (hz.2 fun j hj=>by
          have:=q j hj
          unfold okR at this;rw[(hlet j hj).1] at this;unfold kH at this;rw[hdi,hni] at this;simp at this
          exact this.symm)]
         rfl
       · intro q j hj;split at q
         · rename_i hq;unfold okR;rw[(hlet j hj).1];unfold kH;rw[hdi,hni];simp
           exact (hz.1 hq j hj).symm
         · cases q
     | some x =>
       obtain⟨k,ch⟩:=x;have hch:=aJc hni;obtain⟨hk,_⟩:=hn _ hni;dsimp only at hch hk;have hz:=hZ (jJ l k) (Jl l k) (hzk l k);have hlp:∀ j,kH e j=if k=j then ch else 0:=fun j=>by unfold kH;rw[hdi,hni];simp
       simp only[Bool.true_and,Bool.and_eq_true,decide_eq_true_eq];constructor
       · intro q;rw[if_pos ⟨by
          have:=q k om
          unfold okR at this;rw[(hlet k om).1,hlp,if_pos rfl,if_neg hch] at this;exact this,hz.2 fun j hj=>by
          rw[aHa]
          have:=q j hj
          unfold okR at this;by_cases hjk:j=k
          · subst hjk;rw[if_pos rfl];exact ((hlet j hj).2 (by rw[(hlet j hj).1,hlp,if_pos rfl];exact hch)).symm
          · rw[if_neg hjk];rw[(hlet j hj).1,show kH e j=0 from (by rw[hlp,if_neg (fun e=>hjk e.symm)]),if_pos rfl,decide_eq_true_eq] at this
            exact this.symm⟩]
         rfl
       · intro q j hj;split at q
         · rename_i hq;obtain⟨hq1,hq2⟩:=hq
           have:=hz.1 hq2 j hj
           rw[aHa] at this;unfold okR;rw[(hlet j hj).1,hlp];by_cases hjk:k=j
           · subst hjk;rw[if_pos rfl,if_neg hch];exact hq1
           · rw[if_neg hjk,if_pos rfl,decide_eq_true_eq];rw[if_neg (fun e=>hjk e.symm)] at this;exact this.symm
         · cases q
   | some d =>
     have hdk:=hd d hdi;unfold Vp;cases hni:fM e with
     | none =>
       have hz:=hZ (jJ l d) (Jl l d) (hzk l d);have hlp:∀ j,kH e j=if d=j then 100 else 0:=fun j=>by unfold kH;rw[hdi,hni];simp
       simp only[Bool.and_true,Bool.and_eq_true,decide_eq_true_eq];constructor
       · intro q;rw[if_pos ⟨by
          have:=q d om
          unfold okR at this;rw[(hlet d om).1,hlp,if_pos rfl,if_neg dc] at this;exact this,hz.2 fun j hj=>by
          rw[aHa]
          have:=q j hj
          unfold okR at this;by_cases hjk:j=d
          · subst hjk;rw[if_pos rfl];exact ((hlet j hj).2 (by rw[(hlet j hj).1,hlp,if_pos rfl];decide)).symm
          · rw[if_neg hjk];rw[(hlet j hj).1,show kH e j=0 from (by rw[hlp,if_neg (fun e=>hjk e.symm)]),if_pos rfl,decide_eq_true_eq] at this
            exact this.symm⟩]
         rfl
       · intro q j hj;split at q
         · rename_i hq;obtain⟨hq1,hq2⟩:=hq
           have:=hz.1 hq2 j hj
           rw[aHa] at this;unfold okR;rw[(hlet j hj).1,hlp];by_cases hjk:d=j
           · subst hjk;rw[if_pos rfl,if_neg dc];exact hq1
           · rw[if_neg hjk,if_pos rfl,decide_eq_true_eq];rw[if_neg (fun e=>hjk e.symm)] at this;exact this.symm
         · cases q
     | some x =>
       obtain⟨k,ch⟩:=x;have hch:=aJc hni;obtain⟨hk,hne⟩:=hn _ hni;dsimp only at hch hk hne;have hkd:k≠d:=fun e=>hne (by rw[hdi,e]);have hz:=hZ (jJ (jJ l d) k) (by rw[Jl,Jl]) (fun j=>⟨(hzk _ k j).1.trans (hzk l d j).1,(hzk _ k j).2.trans (hzk l d j).2⟩);have hlp:∀ j,kH e j=if d=j then 100 else if k=j then ch else 0:=fun j=>by unfold kH;rw[hdi,hni];simp
       simp only[Bool.and_eq_true,decide_eq_true_eq];constructor
       · intro q;rw[if_pos ⟨⟨by
          have:=q d om
          unfold okR at this;rw[(hlet d om).1,hlp,if_pos rfl,if_neg dc] at this;exact this,by
          have:=q k om
          unfold okR at this;rw[(hlet k om).1,show kH e k=ch from (by rw[hlp,if_neg (fun e=>hkd e.symm),if_pos rfl]),if_neg hch] at this
          rw[aHa,if_neg hkd];exact this⟩,hz.2 fun j hj=>by
          rw[aHa,aHa]
          have:=q j hj
          unfold okR at this;by_cases hjk:j=k
          · subst hjk;rw[if_pos rfl];exact ((hlet j hj).2 (by rw[(hlet j hj).1,show kH e j=ch from (by rw[hlp,if_neg (fun e=>hkd e.symm),if_pos rfl])];exact hch)).symm
          · rw[if_neg hjk];by_cases hjd:j=d
            · subst hjd;rw[if_pos rfl];exact ((hlet j hj).2 (by rw[(hlet j hj).1,hlp,if_pos rfl];decide)).symm
            · rw[if_neg hjd];rw[(hlet j hj).1,show kH e j=0 from (by rw[hlp,if_neg (fun e=>hjd e.symm),if_neg (fun e=>hjk e.symm)]),if_pos rfl,decide_eq_true_eq] at this
              exact this.symm⟩]
         rfl
       · intro q j hj;split at q
         · rename_i hq;obtain⟨⟨hq1,hq3⟩,hq2⟩:=hq
           have:=hz.1 hq2 j hj
           rw[aHa,aHa] at this;rw[aHa,if_neg hkd] at hq3;unfold okR;rw[(hlet j hj).1,hlp];by_cases hjd:d=j
           · subst hjd;rw[if_pos rfl,if_neg dc];exact hq1
           · rw[if_neg hjd];by_cases hjk:k=j
             · subst hjk;rw[if_pos rfl,if_neg hch];exact hq3
             · rw[if_neg hjk,if_pos rfl,decide_eq_true_eq];rw[if_neg (fun e=>hjk e.symm),if_neg (fun e=>hjd e.symm)] at this;exact this.symm
         · cases q
def keepC (c:aY) (e:Ent):Bool:=!(e.alias || !cT e c)
theorem aHf (f:Ent→Bool) (c:aY):∀ (l:List Ent) (code:Int),kQ f c l code=kQ f c (l.filter (keepC c)) code
 | [],_=>rfl
 | e::l,code=>by
   conv=>lhs;unfold kQ
   cases h:e.alias || !cT e c with
   | true=>rw[List.filter_cons_of_neg (by unfold keepC;rw[h];simp),if_pos rfl];exact aHf f c l code
   | false =>
     rw[List.filter_cons_of_pos (by unfold keepC;rw[h];rfl)]
     conv=>rhs;unfold kQ
     have ih:=aHf f c l 2;cases hf:f e with
     | true=>simp[h]
     | false=>simp[h,ih]
theorem aHr (f g:Ent→Bool) (c:aY):∀ (l:List Ent) (code:Int),(∀ e∈l,f e=g e)→kQ f c l code=kQ g c l code
 | [],_,_=>rfl
 | e::l,code,h=>by
   unfold kQ;rw[h e List.mem_cons_self,aHr f g c l code fun x hx=>h x (List.mem_cons_of_mem _ hx),aHr f g c l 2 fun x hx=>h x (List.mem_cons_of_mem _ hx)]
theorem aHS {α:Type} (g:Nat→Option α) (k:α→Bool) (l:List Nat):(l.filterMap g).filter k=l.filterMap fun x=>(g x).filter k:=by
 induction l with
 | nil=>rfl
 | cons a l ih =>
   rw[List.filterMap_cons,List.filterMap_cons];cases g a with
   | none=>simpa using ih
   | some y=>cases hk:k y with
     | true=>simp[hk,ih,Option.filter]
     | false=>simp[hk,ih,Option.filter]
theorem aIt {α:Type} {f g:Nat→Option α}:∀ l:List Nat,(∀ x∈l,f x=g x)→l.filterMap f=l.filterMap g
 | [],_=>rfl
 | a::l,h=>by
   rw[List.filterMap_cons,List.filterMap_cons,h a List.mem_cons_self,aIt l fun x hx=>h x (List.mem_cons_of_mem _ hx)]
theorem entsL_mem {p:Nat} {e:Ent}:e∈aHg p↔∃ op,op<256∧(atP p op).1=some e:=by
 unfold aHg;simp[List.mem_filterMap]
theorem aIv {p:Nat} (hp:p<7) {e:Ent} (h:e∈aHg p):∃ op,qH p op e=true:=by
 obtain⟨op,ho,h⟩:=entsL_mem.1 h;exact⟨op,Dd hp ho h⟩
theorem De {p op:Nat} {e:Ent} (h:qH p op e=true):∃ r,qD (dN p) op=some r∧r.mn=e.mn∧r.fits op=true∧r∈dN p:=by
 unfold qH at h;simp only[Bool.and_eq_true] at h;obtain⟨⟨⟨⟨⟨_,h1⟩,_⟩,_⟩,_⟩,_⟩:=h;split at h1
 · rename_i r hr;simp only[Bool.and_eq_true,decide_eq_true_eq] at h1;exact⟨r,hr,h1.1.1,h1.1.2,h1.2⟩
 · cases h1
theorem aIO {p:Nat} (hp:p<7) (c:aY):((List.range 256).filterMap (dQ p c.1)).filter (keepC c)=(aHg p).filter (keepC c):=by
 unfold aHg;rw[aHS,aHS];apply aIt
 intro op ho;rw[List.mem_range] at ho;have hkeep:∀ e,keepC c e=true→e.mn=c.1:=fun e h=>by
  unfold keepC cT at h;simp at h
  exact h.2.1
 cases ha:(atP p op).1 with
 | none =>
   have:dQ p c.1 op=none:=by
    unfold dQ;rw[ha];split
    · rfl
    · split
      · rfl
      · split<;>rfl
   rw[this]
 | some e =>
   obtain⟨r,h1,h2,h3,h4⟩:=De (Dd hp ho ha);by_cases hm:r.mn=c.1
   · have:dQ p c.1 op=some e:=by
      unfold dQ;rw[if_neg (by
       rw[Bool.not_eq_false,List.any_eq_true];exact⟨r,by unfold aAy;rw[List.mem_filter];exact⟨h4,by simpa using hm⟩,h3⟩),h1,ha]
      dsimp only;rw[if_pos hm]
     rw[this]
   · have:dQ p c.1 op=none:=by
      unfold dQ;split
      · rfl
      · rw[h1];dsimp only;rw[if_neg hm]
     rw[this];cases hk:keepC c e with
     | false=>simp[hk,Option.filter]
     | true=>exact absurd (h2.trans (hkeep e hk)) hm
theorem aHC {α β:Type} (f g:α→List β) (k:β→Bool):∀ l:List α,(∀ x∈l,(f x).filter k=(g x).filter k)→(l.flatMap f).filter k=(l.flatMap g).filter k
 | [],_=>rfl
 | a::l,h=>by
   rw[List.flatMap_cons,List.flatMap_cons,List.filter_append,List.filter_append,h a List.mem_cons_self,aHC f g k l fun x hx=>h x (List.mem_cons_of_mem _ hx)]
theorem aHt:∀ l:List Op3,(sD l=[0,1,2]∧∀ o∈l,zF o.1 o.2.1≠5∧zF o.1 o.2.1≠6)∨(sD l=[3,5]∧∃ o∈l,zF o.1 o.2.1=5)∨(sD l=[4,6]∧∃ o∈l,zF o.1 o.2.1=6)
 | []=>.inl ⟨rfl,fun o h=>by cases h⟩
 | o::l=>by
   unfold sD;by_cases h5:zF o.1 o.2.1=5
   · rw[if_pos h5];exact .inr (.inl ⟨rfl,o,List.mem_cons_self,h5⟩)
   · rw[if_neg h5];by_cases h6:zF o.1 o.2.1=6
     · rw[if_pos h6];exact .inr (.inr ⟨rfl,o,List.mem_cons_self,h6⟩)
     · rw[if_neg h6];rcases aHt l with⟨h,k⟩|⟨h,x,hx,k⟩|⟨h,x,hx,k⟩
       · exact .inl ⟨h,fun y hy=>by rcases List.mem_cons.1 hy with rfl|hy;exact⟨h5,h6⟩;exact k y hy⟩
       · exact .inr (.inl ⟨h,x,List.mem_cons_of_mem _ hx,k⟩)
       · exact .inr (.inr ⟨h,x,List.mem_cons_of_mem _ hx,k⟩)
theorem aJd {o:Op3} (h:zF o.1 o.2.1=5∨zF o.1 o.2.1=6):Xw o=true:=by
 unfold zF at h;unfold Xw;split at h
 · simp_all
 · split at h
   · rename_i h2;split at h
     · rename_i h3;simp[h3];omega
     · split at h
       · rename_i h3;simp[h3];omega
       · simp at h
   · simp at h
theorem aJZ {o:Op3} (h:Xw o=true) (hk:o.1=2→0≤o.2.1∧o.2.1≤3):zF o.1 o.2.1=5∨zF o.1 o.2.1=6:=by
 unfold Xw at h;unfold zF;simp at h
 by_cases h2:o.1=2
 · rw[if_pos h2];obtain⟨h3,h4⟩:=hk h2;by_cases h5:o.2.1=0∨o.2.1=1
   · rw[if_pos h5];exact .inl rfl
   · rw[if_neg h5,if_pos om];exact .inr rfl
 · rw[if_neg h2];rcases h with h|⟨⟨h3,h4⟩,h5⟩
   · exact absurd h h2
   · rw[if_pos om];rcases h5 with h5|h5
     · rw[if_pos h5];exact .inl rfl
     · rw[if_neg om,if_pos h5];exact .inr rfl
theorem aHX {e:Ent} {c:aY} (h:cT e c=true) {o:Op3} (ho:o∈c.2):∃ x∈e.args,x.1=o.1∧x.2.1=o.2.1:=by
 unfold cT at h;simp only[Bool.and_eq_true,decide_eq_true_eq] at h
 have:(o.1,o.2.1)∈kB c.2:=List.mem_map.2 ⟨o,ho,rfl⟩
 rw[←h.2] at this;obtain⟨x,hx,e⟩:=List.mem_map.1 this;simp at e
 exact⟨x,hx,e⟩
theorem aHh {p op:Nat} {e:Ent} (h:qH p op e=true):((p=3∨p=5)→∀ o∈e.args,zF o.1 o.2.1≠6)∧((p=4∨p=6)→∀ o∈e.args,zF o.1 o.2.1≠5):=by
 unfold qH at h;simp only[Bool.and_eq_true] at h;obtain⟨⟨⟨⟨⟨⟨_,h1⟩,_⟩,_⟩,_⟩,_⟩,_⟩:=h;constructor
 · intro hp o ho;rw[if_pos hp,Bool.and_eq_true,List.all_eq_true] at h1
   have:=h1.2 o ho
   simp at this
   omega
 · intro hp o ho;rw[if_neg om,if_pos hp,Bool.and_eq_true,List.all_eq_true] at h1
   have:=h1.2 o ho
   simp at this
   omega
theorem aHj {c:aY} {p:Nat} (hp:p<7) {v:Int} (hv:∃ o∈c.2,zF o.1 o.2.1=v) (h:∀ op e,qH p op e=true→∀ o∈e.args,zF o.1 o.2.1≠v):(aHg p).filter (keepC c)=[]:=by
 rw[List.filter_eq_nil_iff];intro e he hk;obtain⟨op,hop⟩:=aIv hp he;unfold keepC at hk;simp at hk
 obtain⟨o,ho,hov⟩:=hv;obtain⟨x,hx,h1,h2⟩:=aHX hk.2 ho;exact h op e hop x hx (by rw[h1,h2];exact hov)
theorem aIU (c:aY) (hc:∀ o∈c.2,o.1=2→0≤o.2.1∧o.2.1≤3):Dc c=aIb c:=by
 have hpg:∀ ps:List Nat,(∀ p∈ps,p<7)→(dP c.1 ps).filter (keepC c)=(ps.flatMap aHg).filter (keepC c):=fun ps hps=>aHC _ _ _ ps fun p hp=>aIO (hps p hp) c;have hpp:(dP c.1 (sD c.2)).filter (keepC c)=((aHe c.2).flatMap aHg).filter (keepC c):=by
  rcases aHt c.2 with⟨h,k⟩|⟨h,o,ho,k⟩|⟨h,o,ho,k⟩
  · rw[h,hpg _ dc]
    have:aHe c.2=[0,1,2]:=by
     unfold aHe;rw[if_neg];rw[List.any_eq_true];rintro⟨o,ho,hi⟩;rcases aJZ hi (hc o ho) with q|q
     · exact (k o ho).1 q
     · exact (k o ho).2 q
    rw[this]
  · rw[h,hpg _ dc]
    have:aHe c.2=[3,4,5,6]:=by
     unfold aHe;rw[if_pos (List.any_eq_true.2 ⟨o,ho,aJd (.inl k)⟩)]
    rw[this];have e4:=aHj (c:=c) (p:=4) dc ⟨o,ho,k⟩ (fun op e h=>(aHh h).2 (.inl rfl));have e6:=aHj (c:=c) (p:=6) dc ⟨o,ho,k⟩ (fun op e h=>(aHh h).2 (.inr rfl));simp[List.flatMap_cons,e4,e6]
  · rw[h,hpg _ dc]
    have:aHe c.2=[3,4,5,6]:=by
     unfold aHe;rw[if_pos (List.any_eq_true.2 ⟨o,ho,aJd (.inr k)⟩)]
    rw[this];have e3:=aHj (c:=c) (p:=3) dc ⟨o,ho,k⟩ (fun op e h=>(aHh h).1 (.inl rfl));have e5:=aHj (c:=c) (p:=5) dc ⟨o,ho,k⟩ (fun op e h=>(aHh h).1 (.inr rfl));simp[List.flatMap_cons,e3,e5]
 unfold Dc aIb;rw[aHf,hpp,aHf (fun e=>aHn e c)];apply aHr
 intro e he;have he2:=(List.mem_filter.1 he).1;obtain⟨p,hp,hpe⟩:=List.mem_flatMap.1 he2;have hp7:p<7:=by
  unfold aHe at hp;split at hp
  · simp at hp;omega
  · simp at hp;omega
 obtain⟨op,hop⟩:=aIv hp7 hpe;exact (aJu c hop).symm
def mQ:List (List UInt8)→List UInt8
 | []=>[]
 | [t]=>t
 | t::ts=>t++59::mQ ts
theorem oD:∀ (t:List UInt8),(∀ b∈t,b≠59)→Lib.index t [59]=-1
 | [],_=>rfl
 | b::l,h=>by
   have hb:b≠59:=h b List.mem_cons_self;have ih:=oD l fun x hx=>h x (List.mem_cons_of_mem _ hx);unfold Lib.index;have hp:([59]:List UInt8).isPrefixOf (b::l)=false:=by
    simp[List.isPrefixOf]
    exact fun e=>hb e.symm
   rw[hp,ih];rfl
theorem qF:∀ (t u:List UInt8),(∀ b∈t,b≠59)→Lib.index (t++59::u) [59]=t.length
 | [],u,_=>by
   show Lib.index (59::u) [59]=0
   unfold Lib.index;have hp:([59]:List UInt8).isPrefixOf (59::u)=true:=by simp[List.isPrefixOf]
   rw[hp];rfl
 | b::l,u,h=>by
   have hb:b≠59:=h b List.mem_cons_self;have ih:=qF l u fun x hx=>h x (List.mem_cons_of_mem _ hx);show Lib.index (b::(l++59::u)) [59]=_
   unfold Lib.index;have hp:([59]:List UInt8).isPrefixOf (b::(l++59::u))=false:=by
    simp[List.isPrefixOf]
    exact fun e=>hb e.symm
   rw[hp,ih];have hne:((l.length:Int) == -1)=false:=by rw[beq_eq_false_iff_ne];omega
   rw[hne];simp
theorem Do {t:List UInt8} (h:∀ b∈t,b≠59):Lib.cut t [59]=(t,[],false):=by
 unfold Lib.cut;rw[oD t h];rfl
theorem Dn {t u:List UInt8} (h:∀ b∈t,b≠59):Lib.cut (t++59::u) [59]=(t,u,true):=by
 unfold Lib.cut;rw[qF t u h,if_pos om];have e1:(t++59::u).take ((t.length:Int)).toNat=t:=by rw[Int.toNat_natCast,List.take_left' rfl]
 have e2:(t++59::u).drop (((t.length:Int)).toNat+([59]:List UInt8).length)=u:=by
  rw[Int.toNat_natCast,show t.length+([59]:List UInt8).length=t.length+1 from rfl,←List.drop_drop,List.drop_left' rfl]
  rfl
 rw[e1,e2]
theorem Jb {t:List UInt8} {ts:List (List UInt8)} (h:∀ b∈t,b≠59):Lib.cut (mQ (t::ts)) [59]=(t,mQ ts,decide (ts≠[])):=by
 cases ts with
 | nil=>exact Do h
 | cons u us=>exact (Dn h).trans sm
def jI (op:Nat) (i:Nat) (c:UInt8):Bool:=(c == 48 || c == 49) && decide ((c - 48).toNat≠(op >>> (7 - i))%2)
def eH (t:List UInt8) (op:Nat):Bool:=!t.isEmpty && (List.range (min t.length 8)).all fun i=>!jI op i (t.getD i 0)
def iU:List Rule:=mainR++cbR++edR
theorem zM:∀ r∈iU,∀ op:Fin 256,eH r.text op.val=r.fits op.val:=by decide +kernel
def Qp (w2:List UInt8):List (List UInt8):=(Lib.splitB ⟨#[44]⟩ 0 (Lib.countB ⟨w2.toArray⟩ ⟨#[44]⟩) ⟨w2.toArray⟩).map (·.data.toList)
def iY (r:Rule):Bool :=
 let w:=Lib.fields r.text
 decide (2≤w.length) && decide (w.getD 0 []=r.bits) && decide (w.getD 1 []=r.mn) && decide ((w.getD (w.length - 1) []=[42])↔r.alias=true) &&
 (if 2<w.length∧w.getD 2 []≠[42] then decide (Qp (w.getD 2 [])=r.args) else decide (r.args=[])) &&
 r.text.all (fun b=>decide (b.toNat<128)) && decide (9≤r.text.length) && decide ((Lib.cut (r.text.drop 9) [32]).1=r.mn) && r.text.all (fun b=>decide (b≠59)) && decide (r.bits.length=8) && decide (r.text.length≤100) && decide (r.args.length≤3)
theorem xZ:∀ r∈iU,iY r=true:=by decide +kernel
abbrev qC:ByteArray:=⟨#[48,48,48,48,48,48,48,48,32,78,79,80,59,48,48,48,48,49,48,48,48,32,69,88,32,65,70,44,65,70,39,59,48,48,48,49,48,48,48,48,32,68,74,78,90,32,101,59,48,48,48,49,49,48,48,48,32,74,82,32,101,59,48,48,49,107,107,48,48,48,32,74,82,32,107,44,101,59,48,48,112,112,48,48,48,49,32,76,68,32,112,44,119,59,48,48,112,112,49,48,48,49,32,65,68,68,32,72,76,44,112,59,48,48,48,48,48,48,49,48,32,76,68,32,40,66,67,41,44,65,59,48,48,48,49,48,48,49,48,32,76,68,32,40,68,69,41,44,65,59,48,48,49,48,48,48,49,48,32,76,68,32,40,119,41,44,72,76,59,48,48,49,49,48,48,49,48,32,76,68,32,40,119,41,44,65,59,48,48,48,48,49,48,49,48,32,76,68,32,65,44,40,66,67,41,59,48,48,48,49,49,48,49,48,32,76,68,32,65,44,40,68,69,41,59,48,48,49,48,49,48,49,48,32,76,68,32,72,76,44,40,119,41,59,48,48,49,49,49,48,49,48,32,76,68,32,65,44,40,119,41,59,48,48,112,112,48,48,49,49,32,73,78,67,32,112,59,48,48,112,112,49,48,49,49,32,68,69,67,32,112,59,48,48,114,114,114,49,48,48,32,73,78,67,32,114,59,48,48,114,114,114,49,48,49,32,68,69,67,32,114,59,48,48,114,114,114,49,49,48,32,76,68,32,114,44,110,59,48,48,48,48,48,49,49,49,32,82,76,67,65,59,48,48,48,48,49,49,49,49,32,82,82,67,65,59,48,48,48,49,48,49,49,49,32,82,76,65,59,48,48,48,49,49,49,49,49,32,82,82,65,59,48,48,49,48,48,49,49,49,32,68,65,65,59,48,48,49,48,49,49,49,49,32,67,80,76,59,48,48,49,49,48,49,49,49,32,83,67,70,59,48,48,49,49,49,49,49,49,32,67,67,70,59,48,49,49,49,48,49,49,48,32,72,65,76,84,59,48,49,114,114,114,115,115,115,32,76,68,32,114,44,115,59,49,48,48,48,48,115,115,115,32,65,68,68,32,65,44,115,59,49,48,48,48,49,115,115,115,32,65,68,67,32,65,44,115,59,49,48,48,49,48,115,115,115,32,83,85,66,32,115,59,49,48,48,49,49,115,115,115,32,83,66,67,32,65,44,115,59,49,48,49,48,48,115,115,115,32,65,78,68,32,115,59,49,48,49,48,49,115,115,115,32,88,79,82,32,115,59,49,48,49,49,48,115,115,115,32,79,82,32,115,59,49,48,49,49,49,115,115,115,32,67,80,32,115,59,49,49,99,99,99,48,48,48,32,82,69,84,32,99,59,49,49,113,113,48,48,48,49,32,80,79,80,32,113,59,49,49,48,48,49,48,48,49,32,82,69,84,59,49,49,48,49,49,48,48,49,32,69,88,88,59,49,49,49,48,49,48,48,49,32,74,80,32,40,72,76,41,59,49,49,49,49,49,48,48,49,32,76,68,32,83,80,44,72,76,59,49,49,99,99,99,48,49,48,32,74,80,32,99,44,119,59,49,49,48,48,48,48,49,49,32,74,80,32,119,59,49,49,48,49,48,48,49,49,32,79,85,84,32,40,110,41,44,65,59,49,49,48,49,49,48,49,49,32,73,78,32,65,44,40,110,41,59,49,49,49,48,48,48,49,49,32,69,88,32,40,83,80,41,44,72,76,59,49,49,49,48,49,48,49,49,32,69,88,32,68,69,44,72,76,59,49,49,49,49,48,48,49,49,32,68,73,59,49,49,49,49,49,48,49,49,32,69,73,59,49,49,99,99,99,49,48,48,32,67,65,76,76,32,99,44,119,59,49,49,113,113,48,49,48,49,32,80,85,83,72,32,113,59,49,49,48,48,49,49,48,49,32,67,65,76,76,32,119,59,49,49,48,48,48,49,49,48,32,65,68,68,32,65,44,110,59,49,49,48,48,49,49,49,48,32,65,68,67,32,65,44,110,59,49,49,48,49,48,49,49,48,32,83,85,66,32,110,59,49,49,48,49,49,49,49,48,32,83,66,67,32,65,44,110,59,49,49,49,48,48,49,49,48,32,65,78,68,32,110,59,49,49,49,48,49,49,49,48,32,88,79,82,32,110,59,49,49,49,49,48,49,49,48,32,79,82,32,110,59,49,49,49,49,49,49,49,48,32,67,80,32,110,59,49,49,116,116,116,49,49,49,32,82,83,84,32,116]⟩
abbrev cbS:ByteArray:=⟨#[48,48,48,48,48,115,115,115,32,82,76,67,32,115,59,48,48,48,48,49,115,115,115,32,82,82,67,32,115,59,48,48,48,49,48,115,115,115,32,82,76,32,115,59,48,48,48,49,49,115,115,115,32,82,82,32,115,59,48,48,49,48,48,115,115,115,32,83,76,65,32,115,59,48,48,49,48,49,115,115,115,32,83,82,65,32,115,59,48,48,49,49,48,115,115,115,32,83,76,76,32,115,59,48,48,49,49,49,115,115,115,32,83,82,76,32,115,59,48,49,98,98,98,115,115,115,32,66,73,84,32,98,44,115,59,49,48,98,98,98,115,115,115,32,82,69,83,32,98,44,115,59,49,49,98,98,98,115,115,115,32,83,69,84,32,98,44,115]⟩
abbrev edS:ByteArray:=⟨#[48,49,49,49,48,48,48,48,32,73,78,32,40,67,41,59,48,49,114,114,114,48,48,48,32,73,78,32,114,44,40,67,41,59,48,49,49,49,48,48,48,49,32,79,85,84,32,40,67,41,44,48,59,48,49,114,114,114,48,48,49,32,79,85,84,32,40,67,41,44,114,59,48,49,112,112,48,48,49,48,32,83,66,67,32,72,76,44,112,59,48,49,112,112,49,48,49,48,32,65,68,67,32,72,76,44,112,59,48,49,49,48,48,48,49,49,32,76,68,32,40,119,41,44,72,76,32,42,59,48,49,49,48,49,48,49,49,32,76,68,32,72,76,44,40,119,41,32,42,59,48,49,112,112,48,48,49,49,32,76,68,32,40,119,41,44,112,59,48,49,112,112,49,48,49,49,32,76,68,32,112,44,40,119,41,59,48,49,48,48,48,49,48,48,32,78,69,71,59,48,49,120,120,120,49,48,48,32,78,69,71,32,42,59,48,49,48,48,49,49,48,49,32,82,69,84,73,59,48,49,48,48,48,49,48,49,32,82,69,84,78,59,48,49,120,120,120,49,48,49,32,82,69,84,78,32,42,59,48,49,48,48,48,49,49,48,32,73,77,32,48,59,48,49,48,49,48,49,49,48,32,73,77,32,49,59,48,49,48,49,49,49,49,48,32,73,77,32,50,59,48,49,120,48,120,49,49,48,32,73,77,32,48,32,42,59,48,49,49,49,48,49,49,48,32,73,77,32,49,32,42,59,48,49,49,49,49,49,49,48,32,73,77,32,50,32,42,59,48,49,48,48,48,49,49,49,32,76,68,32,73,44,65,59,48,49,48,48,49,49,49,49,32,76,68,32,82,44,65,59,48,49,48,49,48,49,49,49,32,76,68,32,65,44,73,59,48,49,48,49,49,49,49,49,32,76,68,32,65,44,82,59,48,49,49,48,48,49,49,49,32,82,82,68,59,48,49,49,48,49,49,49,49,32,82,76,68,59,49,48,49,48,48,48,48,48,32,76,68,73,59,49,48,49,48,48,48,48,49,32,67,80,73,59,49,48,49,48,48,48,49,48,32,73,78,73,59,49,48,49,48,48,48,49,49,32,79,85,84,73,59,49,48,49,48,49,48,48,48,32,76,68,68,59,49,48,49,48,49,48,48,49,32,67,80,68,59,49,48,49,48,49,48,49,48,32,73,78,68,59,49,48,49,48,49,48,49,49,32,79,85,84,68,59,49,48,49,49,48,48,48,48,32,76,68,73,82,59,49,48,49,49,48,48,48,49,32,67,80,73,82,59,49,48,49,49,48,48,49,48,32,73,78,73,82,59,49,48,49,49,48,48,49,49,32,79,84,73,82,59,49,48,49,49,49,48,48,48,32,76,68,68,82,59,49,48,49,49,49,48,48,49,32,67,80,68,82,59,49,48,49,49,49,48,49,48,32,73,78,68,82,59,49,48,49,49,49,48,49,49,32,79,84,68,82]⟩
theorem nZ:qC=⟨(mQ (mainR.map (·.text))).toArray⟩:=by kernel_rfl
theorem Du:cbS=⟨(mQ (cbR.map (·.text))).toArray⟩:=by kernel_rfl
theorem Pm:edS=⟨(mQ (edR.map (·.text))).toArray⟩:=by kernel_rfl
end Go.Proofs.YtoigglljnklhlaaGreatDoor
