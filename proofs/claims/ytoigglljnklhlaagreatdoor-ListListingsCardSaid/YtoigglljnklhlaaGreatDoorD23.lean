/- Joined. -/
import Derived.Test.YtoigglljnklhlaaGreatDoorD21
set_option maxHeartbeats 8000000
set_option maxRecDepth 100000
namespace Go.Proofs.YtoigglljnklhlaaGreatDoor
open Go.RowKit Go.Sort
open Go.Proofs.Tryz
theorem tG (m:List UInt8) (a:Option Addr) (n c:Nat) (w:World):Calls prog 201 #[eU m (.slice a n c)] w fun e w'=>e=.returned (.func (.func 238) #[] #[.pointer (some ⟨w.heap.size,0,none⟩)])∧w'=w.alloc (.cells #[.string ⟨m.toArray⟩,.slice a n c] 53):=by
 go_enter func201,ntmps201
 go_wp2_with fail
 go_ret;exact⟨rfl,rfl⟩
end Go.Proofs.YtoigglljnklhlaaGreatDoor
namespace Go.Proofs.YtoigglljnklhlaaGreatDoor
open Go.RowKit Go.Sort Go.Shelf
open Go.Proofs.Tryz
attribute [local go_sem] Oper.semAt_some
structure EntsR (w:World) (N:Nat) (v:Value) (vs:List (Ent × Value)):Prop where
 row:WRow w N v vs.length (sY vs)
 args:∀ x∈vs,WRow w N x.2 x.1.args.length (opc x.1.args)
theorem EntsAt.rows {w:World} {base:Nat} {v:Value} {vs:List (Ent × Value)} (h:EntsAt w base v vs):EntsR w base v vs:=⟨WRow.of_owns h.own,h.args⟩
theorem EntsR.keepC {A B:World} {b N:Nat} {v:Value} {vs:List (Ent × Value)} (h:EntsR A N v vs) (hk:fV b A B) (hb:b≤N):EntsR B N v vs:=⟨h.row.keepC hk hb,fun x hx=>(h.args x hx).keepC hk hb⟩
theorem Ph (vs:List (Ent × Value)):(sY vs).length=vs.length*6:=by
 unfold sY;induction vs with
 | nil=>rfl
 | cons a l ih=>simp[jV] at ih ⊢;omega
theorem zQ:∀ (vs:List (Ent × Value)) (i k:Nat) (x:Ent × Value),vs[i]? = some x→k<6→(sY vs)[i*6+k]? = (jV x)[k]?
 | [],i,k,x,h,_=>by simp at h
 | a::l,0,k,x,h,hk=>by
   simp at h;subst h
   show (jV a++sY l)[0*6+k]? = _
   rw[List.getElem?_append_left (by simp[jV];omega)];congr 1;omega
 | a::l,i+1,k,x,h,hk=>by
   have ih:=zQ l i k x (by simpa using h) hk;show (jV a++sY l)[(i+1)*6+k]? = _
   rw[List.getElem?_append_right (by simp[jV];omega),←ih];congr 1;simp[jV];omega
theorem EntsR.get {w:World} {N:Nat} {v:Value} {vs:List (Ent × Value)} (h:EntsR w N v vs):∃ a cap,v=.slice a vs.length cap∧vs.length≤cap∧(vs≠[]→∃ g o,a=some ⟨g,o,none⟩∧g<w.heap.size∧∀ i x,vs[i]? = some x →
 w.cell? ⟨g,o+i*6,none⟩=some (.int .i64 x.1.page)∧w.cell? ⟨g,o+i*6+1,none⟩=some (.int .u8 x.1.op)∧w.cell? ⟨g,o+i*6+2,none⟩=some (.string ⟨x.1.mn.toArray⟩)∧w.cell? ⟨g,o+i*6+3,none⟩=some x.2∧w.cell? ⟨g,o+i*6+4,none⟩=some (.string ⟨x.1.extra.toArray⟩)∧w.cell? ⟨g,o+i*6+5,none⟩=some (.bool x.1.alias)):=by
 obtain⟨a,cap,hv,hn,hh⟩:=h.row.row;refine⟨a,cap,hv,hn,fun hne=>?_⟩;have hlen:=Ph vs;obtain⟨g,o,ha,hg,hc⟩:=hh (by intro e;rw[e] at hlen;apply hne;exact List.eq_nil_of_length_eq_zero (by simp at hlen;omega))
 refine⟨g,o,ha,hg,fun i x hx=>?_⟩;have hi:i<vs.length:=(List.getElem?_eq_some_iff.1 hx).1;have hk:∀ k,k<6→w.cell? ⟨g,o+i*6+k,none⟩=(jV x)[k]? := fun k hk=>by
  rw[Nat.add_assoc,hc (i*6+k) om,zQ vs i k x hx hk]
 exact⟨hk 0 om,hk 1 om,hk 2 om,hk 3 om,hk 4 om,hk 5 om⟩
theorem Mt {w:World} {base n size:Nat} {e:TypeId} {v:Value} {xs:List Value} (h:w.ownsRow base e size v n xs):n≤maxLen:=by
 rcases h.2 with⟨_,rfl⟩|⟨g,cap,cur,_,_,_,h1,h2,_⟩
 · exact Nat.zero_le _
 · exact Nat.le_trans h1 h2
theorem pF:∀ l:List Op3,0<(bW l).length∧(bW l).length≤3∧∀ p∈bW l,p<7
 | []=>by unfold bW;decide
 | o::l=>by
   have ih:=pF l;unfold bW;split
   · decide
   · split
     · decide
     · exact ih
theorem Uc (n b:Nat) (hn:1≤n) (m:List UInt8) (v:Value) (l:List Op3) (hl:l.length≤1000) :
 vS Fence.wide n prog 238 #[.pointer (some ⟨b,0,none⟩)] (fun x:Ent × Value=>#[cP x.1 x.2]) (fV b) (fun A B=>Below A.heap.size A B)
  (fun W=>W.heap[b]? = some (.cells #[.string ⟨m.toArray⟩,v] 53 (0,0))∧TabsA W∧Row W v l.length (opc l)) (fun x W=>x.1∈dP m (bW l)∧WRow W b x.2 x.1.args.length (opc x.1.args))
  (fun xs=>xs.map Prod.fst=dP m (bW l)) (fun pre=>pre.map Prod.fst <+: dP m (bW l)) (dP m (bW l)).length:=by
 intro lp J Jx W hR hJ hJx hY h0;obtain⟨hblk,hT,hrow⟩:=hR;have hpg:=fun X (hb:Below W.heap.size W X)=>Gp m v l X (hrow.below hb) hl;obtain⟨hp1,hp2,hp3⟩:=pF l;have hnm:=fun X a c (hb:Below W.heap.size W X) hr=>Cf m a c (bW l) X (hT.below hb) hp1 om hp3 hr;obtain⟨ps,hps⟩:∃ ps,bW l=ps:=⟨_,rfl⟩;simp only[hps] at hpg hnm hY ⊢;obtain⟨es,hes⟩:∃ es,dP m ps=es:=⟨_,rfl⟩;simp only[hes] at hnm hY ⊢;clear hp1 hp2 hp3 hps hes;have HPG:=Hh hpg;clear hpg;have HNM:=Hh hnm;clear hnm;have HJ:=Hh hJ;clear hJ;have HY:=Hh hY;clear hY;have H0:=Hh h0;clear h0;obtain⟨a,c,rfl,_,_⟩:=hrow;obtain⟨t0,t1,_,_⟩:=aL hblk;have hbl:=aA hblk;have hK:∀ X,Below W.heap.size W X→X.cell? ⟨b,0,none⟩=some (.string ⟨m.toArray⟩)∧X.cell? ⟨b,1,none⟩=some (.slice a l.length c):=fun X hb=>⟨(hb.cell (p:=⟨b,0,none⟩) hbl).trans t0,(hb.cell (p:=⟨b,1,none⟩) hbl).trans t1⟩;have HK:=Hh hK;clear hK hblk hT;refine callsIn_of_wp func238 rfl trivial ?_ rfl;simp only[ntmps238,List.size_toArray,List.length_cons,List.length_nil,Nat.reduceAdd,Nat.reduceSub,Array.replicate_succ,Array.replicate_zero,List.push_toArray,List.append_toArray,List.nil_append,List.cons_append];gi_wp2
 refine wpIn_wide.2 ?_;have hd:Below W.heap.size W W.drew:=bl;go_region_held3 (fun w'=>w'.cell? ⟨b,0,none⟩=some (.string ⟨m.toArray⟩)∧w'.cell? ⟨b,1,none⟩=some (.slice a l.length c)) (first|exact⟨t0,t1⟩|exact K4|exact K5) (first|((with_reducible refine (HPG.out _ hd).mono ?_);rintro e w4 ⟨a4,c4,rfl,hr4,hb4⟩;have hbw4:Below W.heap.size W w4:=hd.trans hb4;have K4:=HK.out w4 hbw4)|((with_reducible refine (HNM.out _ _ _ hbw4 hr4).mono ?_);rintro e w5 ⟨v5,vs,rfl,hvs,hen,hb5⟩;obtain⟨a5,c5,rfl⟩:=aI hen.own;have hbw5:Below W.heap.size W w5:=hbw4.trans (hb5.mono hbw4.size);have K5:=HK.out w5 hbw5))
 have hlw:W.heap.size≤w4.heap.size:=hbw4.size;have HE5:=Hh hen.rows;have hj5:=HJ.out _ _ _ H0.out hbw5;have HJ5:=Hh hj5;have HVS:=Hh hvs;have hes:es.length=vs.length:=by rw[←hvs,List.length_map]
 have HLEN:=Hh hes;have hbb:b≤w4.heap.size:=om
 have HBB:=Hh hbb;have hml:vs.length≤maxLen:=Mt hen.own;unfold maxLen at hml;clear hd hr4 hb4 hbw4 K4 hvs hb5 hen hbw5 K5 hj5 hes hlw hbb t0 t1 H0;gi_wp2
 gi_loopg [11] (vs.length+1) (fun k i wr=>∃ j:Nat,j≤vs.length∧i=.int .i64 j∧Hid (EntsR wr w4.heap.size (.slice a5 vs.length c5) vs)∧Hid (J (vs.take j) wr)∧vs.length - j<k)
 case atStart=>exact⟨0,Nat.zero_le _,rfl,HE5,HJ5,om⟩
 case round =>
  obtain⟨j,hj,rfl,HE,HJR,hk⟩:=hrel;by_cases hlt:j<vs.length
  · obtain⟨x,hx⟩:∃ x,vs[j]? = some x:=⟨_,List.getElem?_eq_getElem hlt⟩;obtain⟨_,_,hv,hcap,hh⟩:=HE.out.get;cases hv
    obtain⟨g,o,rfl,hg,hh⟩:=hh (by rintro rfl;exact absurd hlt (Nat.not_lt_zero _))
    obtain⟨k0,k1,k2,k3,k4,k5⟩:=hh j x hx;have harg:=HE.out.args x (List.mem_of_getElem? hx);have hmem:x.1∈es:=by rw[←HVS.out];exact List.mem_map_of_mem (List.mem_of_getElem? hx)
    have htk:vs.take (j+1)=vs.take j++[x]:=by rw[List.take_add_one,hx];rfl
    have hi0:(0:Int)≤(j:Int):=om
    have hi1:(j:Int)<(vs.length:Int):=om
    have hcc:(vs.length:Int)≤(c5:Int):=om
    obtain⟨⟨page,op,mn,args,ex,al⟩,vx⟩:=x;dsimp only at k0 k1 k2 k3 k4 k5 harg hmem;obtain⟨ax,cx,rfl,hcx,_⟩:=harg.op;have hal:Below wr.heap.size wr (wr.alloc (.cells #[.int .i64 page,.int .u8 op,.string ⟨mn.toArray⟩,.slice ax args.length cx,.string ⟨ex.toArray⟩,.bool al] 211)):=br.alloc lr _;have hYA:=HY.out (vs.take j) (⟨page,op,mn,args,ex,al⟩,.slice ax args.length cx) (wr.alloc (.cells #[.int .i64 page,.int .u8 op,.string ⟨mn.toArray⟩,.slice ax args.length cx,.string ⟨ex.toArray⟩,.bool al] 211)) (HJ.out _ _ _ HJR.out hal) ⟨hmem,(harg.below hal).mono HBB.out⟩ (by rw[List.length_take,HLEN.out];omega);obtain⟨fn,tmps,assign,body,hy,hR⟩:=hYA;have HR:=Hh hR;have HTK:=Hh htk;have HEA:=Hh (HE.out.keepC (cA (b:=b) hal) HBB.out);clear hh harg hmem htk hal hR hx;gi_wp2
    refine HR.out.mono ?_;rintro e W7 (⟨rfl,hJ7,hk7⟩|⟨rfl,hJx7⟩)
    · have HE7:=Hh (HEA.out.keepC hk7 HBB.out);have HJ7:=Hh hJ7;clear hJ7 hk7;gi_wp2
      gi_roundg (vs.length - j)
      case measure=>exact hk
      case rel=>exact⟨j+1,om,by go_num,HE7,Hh (by rw[HTK.out];exact HJ7.out),om⟩
    · have HX7:=Hh hJx7;clear hJx7;gi_wp2
      refine bodyPost_ret (results_none rfl _ _ _) rfl ?_;exact⟨⟨_,rfl⟩,.inr ⟨vs.take (j+1),by rw[←HVS.out,List.map_take];exact List.take_prefix _ _,by rw[HTK.out];exact HX7.out⟩⟩
  · obtain rfl:j=vs.length:=om
    gi_wp2
    go_end0
    exact⟨⟨_,rfl⟩,.inl ⟨vs,HVS.out,by have:=HJR.out;rwa [List.take_length] at this⟩⟩
end Go.Proofs.YtoigglljnklhlaaGreatDoor
namespace Go.Proofs.YtoigglljnklhlaaGreatDoor
open Go.RowKit Go.Sort
theorem yT {p op:Nat} {mn:List UInt8} {e:Ent} (hp:p<7) (ho:op<256) (h:dQ p mn op=some e):e.mn=mn∧e.args.length≤3:=by
 unfold dQ at h;split at h
 · cases h
 · split at h
   · cases h
   · rename_i r hr;split at h
     · rename_i hm;have hok:=Dd hp ho h;obtain⟨r2,h1,h2,_,_⟩:=De hok;rw[hr] at h1;cases h1
       exact⟨h2.symm.trans hm,(zS hok).2.1⟩
     · cases h
theorem Ce {mn:List UInt8} {ps:List Nat} {e:Ent} (hp:∀ p∈ps,p<7) (h:e∈dP mn ps):e.mn=mn∧e.args.length≤3:=by
 unfold dP at h;obtain⟨p,hpm,h⟩:=List.mem_flatMap.1 h;obtain⟨op,ho,h⟩:=List.mem_filterMap.1 h;exact yT (hp p hpm) (List.mem_range.1 ho) h
theorem uQ:∀ l:List Op3,(∀ o∈l,∃ n,bP o.1 o.2.1 n=true)→bW l=sD l
 | [],_=>rfl
 | o::l,h=>by
   have ih:=uQ l fun x hx=>h x (List.mem_cons_of_mem _ hx);obtain⟨n,hn⟩:=h o List.mem_cons_self;have ho:=Tc hn;unfold bW sD;rw[ho,ih]
theorem qK {i:aY} (h:iR i=0):i.1∈opsL∧i.2.length≤3∧∀ o∈i.2,bP o.1 o.2.1 o.2.2=true:=by
 unfold iR at h;split at h
 · cases h
 · rename_i h1;split at h
   · cases h
   · rename_i h2;split at h
     · cases h
     · rename_i h3;refine⟨Decidable.not_not.1 h1,om,fun o ho=>?_⟩
       rw[List.any_eq_true] at h3;cases hb:bP o.1 o.2.1 o.2.2 with
       | true=>rfl
       | false=>exact absurd ⟨o,ho,by rw[hb];rfl⟩ h3
theorem Ut:bP 1 7 0=true:=by decide +kernel
theorem Ab {i:aY} (h:iR i=0):bW (bV i).2=sD (bV i).2:=by
 obtain⟨_,_,hv⟩:=qK h;apply uQ
 intro o ho;rcases Dv ho with rfl|⟨x,hx,h1,h2⟩
 · exact⟨0,Ut⟩
 · exact⟨x.2.2,by rw[h1,h2];exact hv x hx⟩
theorem Fc (m:List UInt8) (l:List Op3):(exP m l).length=l.length:=by
 unfold exP;split
 · rename_i h;rw[h.2];rfl
 · rfl
theorem Ak (i:aY):(fU i).length≤i.2.length+1:=by
 unfold fU;split
 · rw[List.length_tail];omega
 · split
   · simp
   · omega
theorem kM (i:aY):(bV i).2.length≤i.2.length+1:=by
 unfold bV;dsimp only;rw[List.length_map,Fc];exact Ak i
theorem uL {f:Ent→Bool} {c:aY} {e:Ent} (h:(e.alias || !cT e c)=true) (l:List Ent) (code:Int):kQ f c (e::l) code=kQ f c l code:=by
 show (if _ then _ else _)=_
 rw[if_pos h]
theorem Lu {f:Ent→Bool} {c:aY} {e:Ent} (h:(e.alias || !cT e c)=false) (hf:f e=true) (l:List Ent) (code:Int):kQ f c (e::l) code=(some e,0):=by
 show (if _ then _ else if _ then _ else _)=_
 rw[if_neg (by rw[h];decide),if_pos hf]
theorem Gd {f:Ent→Bool} {c:aY} {e:Ent} (h:(e.alias || !cT e c)=false) (hf:f e=false) (l:List Ent) (code:Int):kQ f c (e::l) code=kQ f c l 2:=by
 show (if _ then _ else if _ then _ else _)=_
 rw[if_neg (by rw[h];decide),if_neg (by rw[hf];decide)]
end Go.Proofs.YtoigglljnklhlaaGreatDoor
