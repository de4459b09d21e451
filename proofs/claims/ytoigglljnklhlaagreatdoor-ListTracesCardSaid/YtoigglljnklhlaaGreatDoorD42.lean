/- Joined. -/
import Derived.Test.YtoigglljnklhlaaGreatDoorD38
import Derived.Test.YtoigglljnklhlaaGreatDoorD41
set_option maxHeartbeats 8000000
set_option maxRecDepth 100000
namespace Go.Proofs.YtoigglljnklhlaaGreatDoor
section
open Go.RowKit Go.Sort
open Go.ChangeMaps
section
variable {P:Program} {w:World} {ops:Array Oper} {o:Oper} {a:Act}
theorem aMz (s x:Operand) (t:TypeId) (ho:o.op=.call { callee:=.builtin .append,args:=#[s,x],argTypes:=#[t,t] })
 (base:Nat) (e:TypeId) (i:TypeInfo) (z:Value) (size bytes:Nat) (ht:P.underlying t=some (.slice e)) (hi:P.info? e=some i) (hz:i.zero=some z)
 (hsize:i.size=size) (hby:i.bytes=bytes) (hzs:z.cells.size=size) (hsz:0<size)
 (v:Value) (n:Nat) (xs:List Value) (hs:a.eval s=v) (hown:w.ownsRow base e size v n xs)
 (v2:Value) (m:Nat) (news:List Value) (hx:a.eval x=v2) (hsrc:eR w v2 m news) (hl:news.length=m*size) (h1:∀ u∈news,u.oneCell'=true)
 (h63:n+m≤maxLen) (hbytes:(n+m)*bytes≤140737488355328) (hbase:base≤w) {K:Act→World→Prop} {Q:Exit→Act→World→Prop}
 (h:∀ v' w',w'.ownsRow base e size v' (n+m) (xs++news)→w.grownBy w' v.ownBlock→(v'=.slice none 0 0↔v=.slice none 0 0∧m=0)→(v'.ownBlock=v.ownBlock∨v'.ownBlock=some w.heap.size)→K (a.put o.dst v') w'):Oper.wp P o a w K Q:=by
 rcases hsrc with⟨rfl,rfl⟩|⟨ad,c,rfl,hc⟩
 · have hn:news=[]:=Xc (by simpa using hl);subst hn;have hrun:=run_append_owned_none (P:=P) (w:=w) base t o.type e i size ht hi v n xs hown;unfold Oper.wp;simp[execOp,ho,resolve,invoke,builtin,hs,hx,hrun,Result.andThen]
   exact h v w (by simpa using hown) (World.grownBy.refl w _) sm (.inl rfl)
 · obtain⟨v',w',hr,h2,h3,h4,h5⟩:=run_append_own_at (P:=P) w base t o.type e i z size bytes ht hi hz hsize hby hzs hsz v n xs hown ad m c news hl hc h1 h63 hbytes hbase;unfold Oper.wp execOp;simp only[ho,resolve,invoke,builtin,Sem.run_bind,Sem.run_pure,Result.andThen_ok,List.map_toArray,Xt,List.map_nil,hs,hx,hr];exact h v' w' h2 h3 h4 h5
theorem aKL {rest:List Oper} {Q:Exit→Act→World→Prop} (hgd:o.guard=none) (s x:Operand) (t:TypeId) (ho:o.op=.call { callee:=.builtin .append,args:=#[s,x],argTypes:=#[t,t] })
 (base:Nat) (e:TypeId) (i:TypeInfo) (z:Value) (size bytes:Nat) (ht:P.underlying t=some (.slice e)) (hi:P.info? e=some i) (hz:i.zero=some z)
 (hsize:i.size=size) (hby:i.bytes=bytes) (hzs:z.cells.size=size) (hsz:0<size)
 (v:Value) (n:Nat) (xs:List Value) (hs:a.eval s=v) (hown:w.ownsRow base e size v n xs)
 (v2:Value) (m:Nat) (news:List Value) (hx:a.eval x=v2) (hsrc:eR w v2 m news) (hl:news.length=m*size) (h1:∀ u∈news,u.oneCell'=true)
 (h63:n+m≤maxLen) (hbytes:(n+m)*bytes≤140737488355328) (hbase:base≤w)
 (h:∀ v' w',w'.ownsRow base e size v' (n+m) (xs++news)→w.grownBy w' v.ownBlock→(v'=.slice none 0 0↔v=.slice none 0 0∧m=0)→(v'.ownBlock=v.ownBlock∨v'.ownBlock=some w.heap.size)→wpList P ops Q rest (a.put o.dst v') w'):wpList P ops Q (o::rest) a w :=
 wpList_plain hgd fun _ hK=>aMz s x t ho base e i z size bytes ht hi hz hsize hby hzs hsz v n xs hs hown v2 m news hx hsrc hl h1 h63 hbytes hbase fun v' w' h2 h3 h4 h5=>hK _ _ (h v' w' h2 h3 h4 h5)
theorem aLs {K:Act→World→Prop} {Q:Exit→Act→World→Prop} {E:Prop} (hgd:o.guard=none) (s x:Operand) (t:TypeId) (ho:o.op=.call { callee:=.builtin .append,args:=#[s,x],argTypes:=#[t,t] })
 (base:Nat) (e:TypeId) (i:TypeInfo) (z:Value) (size bytes:Nat) (ht:P.underlying t=some (.slice e)) (hi:P.info? e=some i) (hz:i.zero=some z)
 (hsize:i.size=size) (hby:i.bytes=bytes) (hzs:z.cells.size=size) (hsz:0<size)
 (v:Value) (n:Nat) (xs:List Value) (hs:a.eval s=v) (hown:w.ownsRow base e size v n xs)
 (v2:Value) (m:Nat) (news:List Value) (hx:a.eval x=v2) (hsrc:eR w v2 m news) (hl:news.length=m*size) (h1:∀ u∈news,u.oneCell'=true)
 (h63:n+m≤maxLen) (hbytes:(n+m)*bytes≤140737488355328) (hbase:base≤w)
 (h:∀ v' w',w'.ownsRow base e size v' (n+m) (xs++news)→w.grownBy w' v.ownBlock→(v'=.slice none 0 0↔v=.slice none 0 0∧m=0)→(v'.ownBlock=v.ownBlock∨v'.ownBlock=some w.heap.size)→K (a.put o.dst v') w') :
 if Region.wanted o (yielded ops a.tmps)=true then Oper.wp P o a w K Q else E:=by
 have hw:Region.wanted o (yielded ops a.tmps)=true:=by simp[Region.wanted,hgd]
 rw[if_pos hw];exact aMz s x t ho base e i z size bytes ht hi hz hsize hby hzs hsz v n xs hs hown v2 m news hx hsrc hl h1 h63 hbytes hbase h
end
structure Two (T:TypeId) (B:Nat) (vo vw:Value) (n m:Nat) (out wait:List Value) (w:World):Prop where
 o:w.ownsRow B T 1 vo n out
 wt:w.ownsRow B T 1 vw m wait
 ow:∀ g,vo.ownBlock=some g→vw.ownBlock≠some g
theorem aON {w w':World} {base:Nat} {e:TypeId} {size:Nat} {v:Value} {n:Nat} {xs:List Value} {row:Option Nat} (h:w.ownsRow base e size v n xs) (hg:w.grownBy w' row) (hne:∀ g,row=some g→v.ownBlock≠some g):w'.ownsRow base e size v n xs:=by
 refine h.kept hg ?_;rcases hv:v.ownBlock with _|g
 · exact .inl rfl
 · exact .inr fun e=>hne g e.symm hv
theorem Two.below {w w':World} {T:TypeId} {B n m:Nat} {vo vw:Value} {out wait:List Value} (h:Two T B vo vw n m out wait w) (hb:Below w w w'):Two T B vo vw n m out wait w' :=
 ⟨bK h.o hb,bK h.wt hb,h.ow⟩
theorem Two.addO {w w':World} {T:TypeId} {B n m k:Nat} {vo vw v':Value} {out wait xs:List Value} (h:Two T B vo vw n m out wait w) (ho:w'.ownsRow B T 1 v' k xs) (hg:w.grownBy w' vo.ownBlock) (hb:v'.ownBlock=vo.ownBlock∨v'.ownBlock=some w.heap.size):Two T B v' vw k m xs wait w' :=
 ⟨ho,aON h.wt hg h.ow,fun g hv e=>by
  rcases hb with hb|hb
  · exact h.ow g (by rw[←hb];exact hv) e
  · rw[hb] at hv;cases hv;exact Zx _ (h.wt.lt _ e).2⟩
theorem Two.addW {w w':World} {T:TypeId} {B n m k:Nat} {vo vw v':Value} {out wait xs:List Value} (h:Two T B vo vw n m out wait w) (ho:w'.ownsRow B T 1 v' k xs) (hg:w.grownBy w' vw.ownBlock) (hb:v'.ownBlock=vw.ownBlock∨v'.ownBlock=some w.heap.size):Two T B vo v' n k out xs w' :=
 ⟨aON h.o hg fun g hv e=>h.ow g e hv,ho,fun g hv e=>by
  rcases hb with hb|hb
  · rw[hb] at e;exact h.ow g hv e
  · rw[hb] at e;cases e;exact Zx _ (h.o.lt _ hv).2⟩
end
section
open Go.RowKit Go.Sort
open Go.Proofs.Tryz
theorem aOA {C:List Cl} {S wait out:List Int} {i:Nat} (h:Bfs C S wait i out) (hS:S.length≤1000) (hC:C.length≤60000):wait.length≤S.length+2*C.length∧wait.length≤121000∧out.length≤60000:=by
 have h1:=aLq h.nodup h.hit;have h2:=h.len;omega
theorem aMn (C:List Cl) (S L:List Int) (v u:Value) (w:World) (hv:Row w v C.length (clc C)) (hC:Asc C) (hl:C.length≤60000) (hu:eR w u S.length (aBQ S)) (hS:∀ a∈S,-100000≤a∧a≤100000) (hSl:S.length≤1000) (hL:HitL C S L) :
 Calls prog 41 #[v,u] w fun e w'=>∃ v',e=.returned v'∧Row w' v' L.length (aBQ L)∧Below w w w':=by
 obtain⟨i0,hji,hz0,hz1,hz2⟩:=info_parts Tryz.infoInt;have HIT:=Hh (fun a X (hb:Below w w X) (h1:-100000≤a) (h2:a≤100000)=>aLI C v a X (hv.below hb) hC om h1 h2);have HNX:=Hh (fun a vr va B0 W (hI:ItAt B0 (bX (aKz C a 4)) vr va W)=>aMI a (bX (aKz C a 4)) vr va B0 W hI (Qn (Ik _).2 dc) (by have h1:=aKN (aKz C a 4);have h2:=aKF C 4 a;omega))
 have HLEN:=Hh (fun wait i out (h:Bfs C S wait i out)=>aOA h hSl hl);have HCI:=Hh (fun a h=>aMZ (C:=C) (a:=a) hS h);have HU:=Hh hu;have HS:=Hh hSl;have HL:=Hh hL;have HCL:=Hh hl;have hus:∃ a n c,u=.slice a n c:=by
  rcases hu with⟨_,h⟩|⟨ad,c,h,_⟩
  · exact⟨_,_,_,h⟩
  · exact⟨_,_,_,h⟩
 obtain⟨au,nu,cu,rfl⟩:=hus;obtain⟨av,cv,rfl,_,_⟩:=hv;have hsm:S.length≤1000:=hSl;clear hu hC hl hS hSl hL;go_enter func41,ntmps41
 go_wp2_with (at_builtin;refine aKL rfl _ _ 44 rfl w 3 i0 (.int .i64 0) 1 8 underlying44 hji hz0 hz1 hz2 rfl dc _ 0 [] rfl (aKY (aF w _) lr) _ S.length (aBQ S) rfl (aHz HU.out (br.alloc lr _)) (by simp[aBQ]) (aCk _) (by unfold maxLen;omega) om (by rw[Qa];omega) ?_)
 intro v1 w1 ho1 hg1 _ hat1;have ho1:w1.ownsRow w 3 1 v1 S.length (aBQ S):=ho1;have hb1:Below w w w1:=((Below.refl w w).alloc (o:=.cells #[] 3) lr).grown hg1 (by rw[Qa];omega) (fun q hq=>by have h:=Xi hq;dsimp only at h;omega);obtain⟨a1,c1,rfl⟩:=aI ho1;have HO1:=Hh ho1;have HB1:=Hh hb1;clear ho1 hg1 hat1 hb1;go_wp2_with fail
 go_loopw [5,6,7] (fun o t i wr=>∃ (k:Nat) (ao aw:Option Addr) (co cw:Nat) (out wait:List Int),k≤wait.length∧i=.int .i64 k∧o=.slice ao out.length co∧t=.slice aw wait.length cw∧Hid (Two 3 w.heap.size (.slice ao out.length co) (.slice aw wait.length cw) out.length wait.length (aBQ out) (aBQ wait) wr)∧Hid (Bfs C S wait k out)∧Hid (Below w w wr)) (fun _ _ i _=>S.length+2*C.length - (intOf i).toNat)
 case atStart=>exact⟨0,none,a1,0,c1,[],S,Qi _,rfl,rfl,rfl,Hh ⟨Xa _ _ _ _,HO1.out,fun g h=>by cases h⟩,Hh (Bfs.zero C S),HB1⟩
 case round =>
  obtain⟨k,ao,aw,co,cw,out,wait,hk,rfl,rfl,rfl,HTW,HBF,HB⟩:=hrel;have hln:=HLEN.out _ _ _ HBF.out;have HLN:=Hh hln;have hwl:=hln.2.1;clear hln;by_cases hlt:k<wait.length
  · obtain⟨x,hx⟩:∃ x,wait[k]? = some x:=⟨_,Qb hlt⟩;obtain⟨_,_,hv0,hcw,hh⟩:=Row.of_owns HTW.out.wt;cases hv0
    obtain⟨gw,ow,rfl,hgw,hcs⟩:=hh (by intro e;have h1:=congrArg List.length e;rw[aBQ,Qs,Qz] at h1;omega);have k0:wr.cell? ⟨gw,ow+k,none⟩=some (.int .i64 x):=by
     have:=hcs k (by simp[aBQ];exact hlt)
     rw[this];simp[aBQ,hx]
    have hi0:(0:Int)≤(k:Int):=om
    have hi1:(k:Int)<(wait.length:Int):=om
    have hci:=HCI.out x (HBF.out.cand x (Qu hx));have hit:=HIT.out x wr HB.out hci.1 hci.2;have HITX:=Hh hit;have HX:=Hh hx;have HGW:=Hh hgw;have HK0:=Hh k0;clear hh hcs hx hit hci;go_wp2_with fail
    refine HITX.out.mono ?_;rintro e w3 ⟨vr,va,rfl,hia,hb3⟩;have HSZ3:=Hh hb3.size;have HB3:=Hh (HB.out.trans (hb3.mono HB.out.size));have HIA:=Hh hia;have HT3:=Hh (HTW.out.below hb3);have k3:w3.cell? ⟨gw,ow+k,none⟩=some (.int .i64 x):=(hb3.cell (p:=⟨gw,ow+k,none⟩) hgw).trans k0;have hg3:gw<w3:=Qj hgw hb3.size;obtain⟨it,hit⟩:∃ it,bX (aKz C x 4)=it:=⟨_,rfl⟩;have HNXX:=Hh (fun W hI=>HNX.out x vr va wr W hI);rw[hit] at HNXX HIA ⊢;obtain⟨IC,hic⟩:∃ c,(!(aKz C x 4).isEmpty)=c:=⟨_,rfl⟩;rw[hic];have HIC:=Hh (show isC C x=IC from hic);have HNE:=Hh (show aKQ C x=aKP x it by rw[←hit];rfl);clear hb3 hia hit hic k0 hgw;obtain⟨ki,ra,⟨im,ia⟩,ial⟩:=it;obtain⟨ar,cr,rfl⟩:=aI HIA.out.raw;obtain⟨aa,ca,rfl⟩:=aI HIA.out.args.own;dsimp only[itV] at HIA HNXX ⊢;go_upto_region 7 with fail
    obtain⟨W4,hW4⟩:∃ W,w3.alloc (.cells #[ki,.slice ar ra.length cr,im,.slice aa ia.length ca,.bool ial] 55)=W:=⟨_,rfl⟩;have hb4:Below w3 w3 W4:=by rw[←hW4];exact br.alloc lr _
    have hx4:W4.heap[w3.heap.size]? = some (.cells #[ki,.slice ar ra.length cr,im,.slice aa ia.length ca,.bool ial] 55 (0,0)):=by rw[←hW4];exact aF _ _
    rw[hW4];have k4:W4.cell? ⟨gw,ow+k,none⟩=some (.int .i64 x):=(hb4.cell (p:=⟨gw,ow+k,none⟩) hg3).trans k3;have hg4:gw<W4:=Qj hg3 hb4.size;have HX4:=Hh hx4;have HT4:=Hh (HT3.out.below hb4);have HB4:=Hh (HB3.out.trans (hb4.mono HB3.out.size));have HIA4:=Hh (HIA.out.below hb4);have HOL:=Hh (fun q (h:(Value.slice ao out.length co).ownBlock=some q)=>(HTW.out.o.lt q h).2);clear hW4 hb4 hx4 k3 hg3 HK0 HGW;cases IC
    · have HN:=Hh (HBF.out.skip HX.out (.inl HIC.out));go_wp2_with fail
      go_roundw
      case rel=>exact⟨k+1,ao,_,co,cw,out,wait,hlt,by go_num,rfl,rfl,HT4,HN,HB4⟩
      case measure=>have:=HLN.out.1;simp[intOf];omega
    · have HIN:=Hh (aOa out (.slice ao out.length co) x W4 (Row.of_owns HT4.out.o) (by have:=HLN.out;omega));by_cases hxo:x∈out
      · have HN:=Hh (HBF.out.skip HX.out (.inr hxo));rw[Qh hxo] at HIN;clear hxo;go_wp2_with fail
        refine HIN.out.mono ?_;rintro e w5 ⟨rfl,rfl⟩;go_wp2_with fail
        go_roundw
        case rel=>exact⟨k+1,ao,_,co,cw,out,wait,hlt,by go_num,rfl,rfl,HT4,HN,HB4⟩
        case measure=>have:=HLN.out.1;simp[intOf];omega
      · have HN:=Hh (HBF.out.add HX.out HIC.out hxo);rw[Qg hxo] at HIN;clear hxo;have hol:out.length≤60000:=HLN.out.2.2;have hbs:=HB4.out.size;go_wp2_with fail
        refine HIN.out.mono ?_;rintro e w5 ⟨rfl,rfl⟩;go_wp2_with (at_builtin;refine aKL rfl _ _ 44 rfl w 3 i0 (.int .i64 0) 1 8 underlying44 hji hz0 hz1 hz2 rfl dc _ _ _ rfl (bK HT4.out.o ((Below.refl W4 W4).alloc lr _)) _ 1 (aBQ [x]) rfl (aLg W4 x) rfl (aCk _) (by unfold maxLen;omega) om (by rw[Qa];omega) ?_)
        intro v' w5 ho5 hg5 _ hat5;have hal:Below W4 W4 (W4.alloc (.cells #[.int .i64 x] 3)):=(Below.refl W4 W4).alloc lr _;rw[←aLf] at ho5;obtain⟨a5,c5,rfl⟩:=aI ho5;have ht5:=(HT4.out.below hal).addO ho5 hg5 (by rw[Qa];exact hat5);have hb5:Below w w w5:=(HB4.out.trans (hal.mono hbs)).grown hg5 (Qn hbs hal.size) (aKO HT4.out.o);have hx5:w5.heap[w3.heap.size]? = some (.cells #[ki,.slice ar ra.length cr,im,.slice aa ia.length ca,.bool ial] 55 (0,0)):=(hg5.block _ (Qj (aA HX4.out) hal.size) (fun e=>by have:=HOL.out _ e.symm;have:=HSZ3.out;omega)).trans (aB HX4.out hal (aA HX4.out));have hko:lZ wr (W4.alloc (.cells #[.int .i64 x] 3)) w5:=fun q o hq ho _=>(hg5.block q (aA ho) (fun e=>by have:=HOL.out _ e.symm;omega)).trans ho;have HNXZ:=Hh (fun W (hb:Below w5 w5 W)=>HNXX.out W (((HIA4.out.below hal).on hko lr).below hb));have HT5:=Hh ht5;have HB5:=Hh hb5;have HX5:=Hh hx5;clear ho5 hg5 hat5 hal ht5 hb5 hx5 k4 hg4;go_wp2_with fail
        obtain⟨_,_,hv0,_,hh5⟩:=Row.of_owns HT5.out.wt;cases hv0
        obtain⟨gw,ow,e5,hgw,hcs5⟩:=hh5 (by intro e;have h1:=congrArg List.length e;rw[aBQ,Qs,Qz] at h1;omega);cases e5
        have k5:w5.cell? ⟨gw,ow+k,none⟩=some (.int .i64 x):=by
         rw[hcs5 k (by simp[aBQ];exact hlt)];simp[aBQ,HX.out]
        have hbs5:=HB5.out.size;obtain⟨⟨p0,p1,p2,p3,p4⟩,_⟩:=bJ HX5.out;have hl5:=aA HX5.out;have hnl:=aKS x ⟨ki,ra,(im,ia),ial⟩;clear hcs5 hh5;have hdr5:Below w5 w5 w5.drew:=Below.drew br;go_region_law (first
         | (go_simp;go_at_call 77;(with_reducible refine (HNXZ.out _ hdr5).mono ?_);rintro e w6 ⟨v6,rfl,ho6,hb6⟩;have hb56:=hdr5.trans hb6)
         | (refine aLs (by rfl) _ _ 44 (by rfl) w.heap.size 3 i0 (.int .i64 0) 1 8 underlying44 hji hz0 hz1 hz2 rfl dc _ wait.length (aBQ wait) (by rfl) (bK HT5.out.wt hb56) v6 _ _ (by rfl) (qV ho6) (by rw[aKM];omega) (aCk _) (by unfold maxLen;omega) om (Qn hbs5 hb56.size) ?_;intro v7 w7 ho7 hg7 hn7 hat7))
        all_goals
         have hb7:Below w w w7:=(HB5.out.trans (hb56.mono hbs5)).grown hg7 (Qn hbs5 hb56.size) (aKO HT5.out.wt);have ht7:=(HT5.out.below hb56).addW ho7 hg7 hat7;obtain⟨a7,c7,rfl⟩:=aI ho7;have hwl7:(wait++aKQ C x).length=wait.length+(aKP x ⟨ki,ra,(im,ia),ial⟩).length:=by rw[HNE.out,Qc]
         have hol7:(out++[x]).length=out.length+1:=by rw[Qc];rfl
         have hz7:aBQ wait++aBQ (aKP x ⟨ki,ra,(im,ia),ial⟩)=aBQ (wait++aKQ C x):=by rw[HNE.out,aLf]
         rw[hz7,←hwl7,←hol7] at ht7;rw[←hwl7,←hol7];have HT7:=Hh ht7;have HB7:=Hh hb7;have HWL:=Hh hwl7;clear hwl7 hol7 hz7 ht7 hb7 ho7 hg7 hn7 hat7 ho6 hb6 hb56 hdr5 p0 p1 p2 p3 p4 hl5 k5;go_wp2_with fail
         go_roundw
         case rel=>exact⟨k+1,a5,a7,c5,c7,out++[x],wait++aKQ C x,by rw[HWL.out];omega,by go_num,by first|rfl|(rw[Qc];rfl),by first|rfl|(rw[Qc]),HT7,HN,HB7⟩
         case measure=>have:=HLN.out.1;simp[intOf];omega
  · obtain rfl:k=wait.length:=om
    have HSO:=Hh (aMc out (.slice ao out.length co) wr (Row.of_owns HTW.out.o) (by have:=HLN.out;omega));have hLe:aKK out=L:=(HitL.sort fun y=>HBF.out.end lr y).uniq HL.out;have HLE:=Hh hLe;clear hLe;go_wp2_with fail
    refine HSO.out.mono ?_;rintro e w9 ⟨v9,rfl,hr9,hb9⟩;rw[HLE.out] at hr9;have HR9:=Hh hr9;have HB9:=Hh (HB.out.trans (hb9.mono HB.out.size));clear hr9 hb9;go_wp2_with fail
    go_ret;exact⟨_,rfl,HR9.out,HB9.out⟩
end
end Go.Proofs.YtoigglljnklhlaaGreatDoor
